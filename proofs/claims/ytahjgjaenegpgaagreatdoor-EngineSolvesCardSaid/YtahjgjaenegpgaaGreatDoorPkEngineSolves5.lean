import Derived.Test.YtahjgjaenegpgaaGreatDoorProg
import Derived.Laws.Externs
import Derived.Test.YtahjgjaenegpgaaGreatDoorPkEngineSolves4
set_option maxRecDepth 100000
set_option linter.unusedSimpArgs false
set_option linter.unusedVariables false
set_option linter.unnecessarySimpa false
set_option linter.unusedSectionVars false
namespace Go.Proofs.YtahjgjaenegpgaaGreatDoor
open Tryz (prog)
namespace Rec
open Go Go.Hw Go.Form Go.Crc W
def hZ8 (a b c:Nat):R:=⟨a%281474976710656,((b%256:Nat):Int),((b/65536%256:Nat):Int),((b/256%256:Nat):Int),((b/16777216%256:Nat):Int),b/4294967296,c/4294967296,c%4294967296⟩
theorem wZq {x:Nat}(hx:x<2^64):aZF .u64 (x:Int) 281474976710655=((x%281474976710656:Nat):Int):=by
 rw[show(281474976710655:Int)=((281474976710655:Nat):Int)from rfl,lZ3 hx (by omega),show 281474976710655=2^48-1 from rfl,Nat.and_two_pow_sub_one_eq_mod]
theorem nZD {x:Nat}(hx:x<2^64):aZF .u64 (x:Int) 255=((x%256:Nat):Int):=by
 rw[show(255:Int)=((255:Nat):Int)from rfl,lZ3 hx (by omega),show 255=2^8-1 from rfl,Nat.and_two_pow_sub_one_eq_mod]
theorem xZj (x:Nat):IntKind.u32.wrap (x:Int)=((x%4294967296:Nat):Int):=by
 simp only[IntKind.wrap,IntKind.bits,IntKind.signed,Bool.false_and,Bool.false_eq_true,if_false];omega
theorem nZF (A:Option Addr)(n m:Nat)(a b c:Nat)(ws:List Nat)(hn:n=(a::b::c::ws).length)(ha:a<2^64)(hb:b<2^64)(hc:c<2^64)(H:Hp)(hl:Cells H A (Gen.eZH (a::b::c::ws))):
  Zc prog 154 #[.slice A n m] H (RetE (.agg (hZ8 a b c).c) H):=Zc.ret (by
 apply gZO.ok;unfold gZO;have hlen:(Gen.eZH (a::b::c::ws)).length≤n:=by rw[Gen.gZW,hn];exact Nat.le_refl _
 refine(Sep.start H).nw fun b1 H1 hs=>?_
 have hl1:=hl.le (hs.ow 0 rfl);have r0:(Gen.eZH (a::b::c::ws))[0]? =some (.int .u64 (a:Int)):=rfl;have r1:(Gen.eZH (a::b::c::ws))[1]? =some (.int .u64 (b:Int)):=rfl;have r2:(Gen.eZH (a::b::c::ws))[2]? =some (.int .u64 (c:Int)):=rfl;refine hl1.read r0 rfl hlen ?_;simp only[HV];refine hl1.read r1 rfl hlen ?_;simp only[HV];refine hl1.read r1 rfl hlen ?_;simp only[HV];refine⟨by decide,?_⟩;refine hl1.read r1 rfl hlen ?_;simp only[HV];refine⟨by decide,?_⟩;refine hl1.read r1 rfl hlen ?_;simp only[HV];refine⟨by decide,?_⟩;refine hl1.read r1 rfl hlen ?_;simp only[HV];refine⟨by decide,?_⟩;refine hl1.read r2 rfl hlen ?_;simp only[HV];refine⟨by decide,?_⟩;refine hl1.read r2 rfl hlen ?_;simp only[HV];have s8:aZE .u64 (b:Int) 8=((b/256:Nat):Int):=hZP (k:=.u64) (a:=b) (i:=8) (n:=8) rfl (by decide);have s16:aZE .u64 (b:Int) 16=((b/65536:Nat):Int):=hZP (k:=.u64) (a:=b) (i:=16) (n:=16) rfl (by decide);have s24:aZE .u64 (b:Int) 24=((b/16777216:Nat):Int):=hZP (k:=.u64) (a:=b) (i:=24) (n:=24) rfl (by decide);have s32:aZE .u64 (b:Int) 32=((b/4294967296:Nat):Int):=hZP (k:=.u64) (a:=b) (i:=32) (n:=32) rfl (by decide);have t32:aZE .u64 (c:Int) 32=((c/4294967296:Nat):Int):=hZP (k:=.u64) (a:=c) (i:=32) (n:=32) rfl (by decide);rw[s8,s16,s24,s32,t32,wZq ha,nZD hb,nZD (x:=b/65536) (by omega),nZD (x:=b/256) (by omega),nZD (x:=b/16777216) (by omega),bZi (n:=b%256) (by omega),bZi (n:=b/65536%256) (by omega),bZi (n:=b/256%256) (by omega),bZi (n:=b/16777216%256) (by omega),
  oZS (n:=b/4294967296) (by omega),oZS (n:=c/4294967296) (by omega),xZj c]
 refine hs.stw 1 rfl rfl rfl rfl fun H1 hs=>?_
 refine hs.ldw 1 rfl rfl ?_;exact hs.fin 0 rfl _)
def wds (bs:List UInt8)(n:Nat):List Nat:=(List.range n).map fun i=>ZC bs (8*i)
theorem uZf (bs:List UInt8)(n:Nat):wds bs (n+1)=wds bs n++[ZC bs (8*n)]:=by
 unfold wds;rw[List.range_succ,List.map_append];rfl
def gZl (bs:List UInt8):Bool:=decide (∀ x∈bs.drop 32,x=0)
theorem nZ4 (K:Value→Hp→Prop){A:Option Addr}{n m:Nat}{bs:List UInt8}{R:As}(hR:∀ H,R H→Cells H A (Zx bs))(hn:n=bs.length)(hnm:n≤m)(h32:32≤n)(hbig:n≤1000000)
  (hK:∀ A' m' H,4≤m'→Sep [R,Own 84 1 A' 4 m' (Gen.eZH (wds bs 4))] H→K (.tuple #[.slice A' 4 m',.bool (gZl bs)]) H):
  ∀(t i:Nat) (A':Option Addr) (m':Nat) (H:Hp),i+t=4→i≤m'→Sep [R,Own 84 1 A' i m' (Gen.eZH (wds bs i))] H→aZ0.l2 K (t+1) A n m A' i m' (i:Int) H
 |0,i,A',m',H,hi,hm',hs=>by
  obtain rfl:i=4:=by omega
  have hc:Cells H A (Zx bs):=by
   obtain⟨H1,h1,hle⟩:=hs.see 0 rfl;exact(hR H1 h1).le hle
  unfold aZ0.l2;refine Zm (by decide) ?_;refine hZQ (l:=32) rfl h32 ?_;have h1:Cells H (slA A m 32 1) (Zx (bs.drop 32)):=by
   have:=hc.shift (m:=m) (l:=32) (by rw[ZT];omega);rw[show(Zx bs).drop 32=Zx (bs.drop 32) by unfold Zx;rw[List.map_drop]]at this;exact this
  refine rZb h1 (by rw[List.length_drop];omega) ?_;refine Zc.use (uZS ⟨(bs.drop 32).toArray⟩ 0 (by decide) (by show(bs.drop 32).toArray.size≤_;simp;omega) H) ?_;simp only[HV];have he:((⟨(Go.Lib.trimB (bs.drop 32) 0).toArray⟩:ByteArray).toList==(⟨#[]⟩:ByteArray).toList)=gZl bs:=by
   rw[ByteArray.toList_mk,show(⟨#[]⟩:ByteArray).toList=[]from ByteArray.toList_mk []];unfold gZl;by_cases h:Go.Lib.trimB (bs.drop 32) 0=[]
   ·rw[h,decide_eq_true ((nZc _ _).1 h)];rfl
   ·rw[decide_eq_false (fun g=>h ((nZc _ _).2 g)),beq_eq_false_iff_ne.2 h]
  rw[he];exact hK A' m' H hm' hs
 |t+1,i,A',m',H,hi,hm',hs=>by
  have hc:Cells H A (Zx bs):=by
   obtain⟨H1,h1,hle⟩:=hs.see 0 rfl;exact(hR H1 h1).le hle
  unfold aZ0.l2;refine Zw (by omega) ?_;refine Zc.use (FormP.Word_ok A n m hnm (by omega) bs hn i (by omega) H hc) ?_;simp only[HV];refine rZn ?_;refine hs.app1 1 rfl Gen.bZR (by omega) rfl (by omega) (by omega) fun A2 m2 H hs hcap=>?_
  simp only[HV];rw[ZV (x:=(i:Int)+1) (by omega) (by omega),show(i:Int)+1=((i+1:Nat):Int) by omega];refine nZ4 K hR hn hnm h32 hbig hK t (i+1) A2 m2 H (by omega) (hcap _ _ _ rfl) ?_;rw[uZf,show Gen.eZH (wds bs i++[ZC bs (8*i)])=Gen.eZH (wds bs i)++[.int .u64 ((ZC bs (8*i):Nat):Int)] by unfold Gen.eZH;rw[List.map_append];rfl];exact hs
theorem wZc {A:Option Addr}{n m:Nat}{bs:List UInt8}{R:As}(hR:∀ H,R H→Cells H A (Zx bs))(hn:n=bs.length)(hnm:n≤m)(h32:32≤n)(hbig:n≤1000000):
  Tr prog 153 #[.slice A n m] [R] fun v M=>∃ A' m',4≤m'∧v= .tuple #[.slice A' 4 m',.bool (gZl bs)]∧M=[R,Own 84 1 A' 4 m' (Gen.eZH (wds bs 4))]:=fun H hs=>by
 apply aZ0.ok;unfold aZ0;have e0:Sep [R,Own 84 1 none 0 0 (Gen.eZH (wds bs 0))] H:=by
  have:Sep (Own 84 1 none 0 0 []::[R]) H:=⟨fun _=>none,H,fun _ _ h=>(nomatch h),Hp.le_refl _,fun _=>.inl rfl,Own.none _ _ _,hs⟩;exact this.re [1,0] rfl
 refine⟨5,?_⟩;refine nZ4 _ hR hn hnm h32 hbig (fun A' m' H hm' hs=>?_) 4 0 none 0 H rfl (Nat.le_refl _) e0;exact⟨_,⟨A',m',hm',rfl,rfl⟩,hs⟩
def secB (n:Int):Bool:=decide ((Lay.gZF 0 n).2=0)
theorem iZa (x:Int)(H:Hp):Zc prog 152 #[.int .i64 x] H (RetE (.bool (secB x)) H):=by
 apply cZ1.ok;unfold cZ1;refine Zc.use (Lay.jZN 0 x H) ?_;simp only[HV];refine⟨?_,rfl⟩;unfold secB;by_cases h:(Lay.gZF 0 x).2=0
 ·rw[decide_eq_true h,h];rfl
 ·rw[decide_eq_false h,beq_eq_false_iff_ne.2 h]
def bZq :R:=⟨0,0,0,0,0,0,0,0⟩
def w3U (bs:List UInt8):List UInt64:=[UInt64.ofNat (ZC bs 0),UInt64.ofNat (ZC bs 8),UInt64.ofNat (ZC bs 16)]
def bZc (bs:List UInt8):R×Int:=
 if secB (bs.length:Int)=true then
  if ZC bs 0/281474976710656=21061∧gZl bs=true then
   if ZC bs 24=bZp 0 (gZX (w3U bs))then
    if(hZ8 (ZC bs 0) (ZC bs 8) (ZC bs 16)).good then(hZ8 (ZC bs 0) (ZC bs 8) (ZC bs 16),0)else(bZq,1)
   else(bZq,9)
  else(bZq,10)
 else(bZq,15)
theorem cZ6 (bs:List UInt8)(o:Nat):ZC bs o<2^64:=pZy (by simp;omega)
set_option maxHeartbeats 1000000 in
theorem iZo (A:Option Addr)(n m:Nat)(bs:List UInt8)(hn:n=bs.length)(hnm:n≤m)(hbig:n≤1000000)(h32:secB (n:Int)=true→32≤n)(H:Hp)(hc:Cells H A (Zx bs)):
  Zc prog 108 #[.slice A n m] H (RetE (.tuple #[.agg (bZc bs).1.c,.int .i64 (bZc bs).2]) H):=Zc.ret (by
 apply cZx.ok;unfold cZx cZx.q1 bZc;rw[← hn];refine(Sep.start H).nw fun b1 H1 hs=>?_
 have hs:Sep [own H,pts b1 (bZJ bZq)] H1:=hs;refine Zc.use (iZa n H1) ?_;simp only[HV];by_cases hsec:secB (n:Int)=true
 case neg=>
  rw[if_neg hsec,show secB (n:Int)=false by simpa using hsec];refine aZN rfl ?_;refine hs.stw 1 rfl rfl rfl rfl fun H1 hs=>?_
  refine hs.ldw 1 rfl rfl ?_;exact hs.fin 0 rfl _
 rw[if_pos hsec,hsec];refine aZu rfl ?_;refine(wZc (R:=own H) (fun H' h=>hc.le h) hn hnm (h32 hsec) hbig).use hs [0] rfl rfl ?_;rintro _ _ H1 ⟨A',m',hm',rfl,rfl⟩ hs;simp only[HV];have hA:Cells H1 A' (Gen.eZH (wds bs 4)):=by
  obtain⟨hl,h⟩:=hs.own 1 rfl;rcases h with⟨_,h0,_⟩|⟨b,mm,rfl,hb,_⟩
  ·omega
  ·have:=Cells.row hb 0 4;exact this
 have hw:wds bs 4=[ZC bs 0,ZC bs 8,ZC bs 16,ZC bs 24]:=rfl;rw[hw]at hA hs;refine Zc.use (nZF A' 4 m' (ZC bs 0) (ZC bs 8) (ZC bs 16) [ZC bs 24] rfl (cZ6 _ _) (cZ6 _ _) (cZ6 _ _) H1 hA) ?_;simp only[HV];refine hs.nw fun b2 H1 hs=>?_
 refine hs.stw 3 rfl rfl rfl rfl fun H1 hs=>?_
 have hs:Sep [own H,Own 84 1 A' 4 m' (Gen.eZH [ZC bs 0,ZC bs 8,ZC bs 16,ZC bs 24]),pts b1 (bZJ bZq),pts b2 (bZJ (hZ8 (ZC bs 0) (ZC bs 8) (ZC bs 16)))] H1:=hs;have hA:Cells H1 A' (Gen.eZH [ZC bs 0,ZC bs 8,ZC bs 16,ZC bs 24]):=by
  obtain⟨hl,h⟩:=hs.own 1 rfl;rcases h with⟨_,h0,_⟩|⟨b,mm,rfl,hb,_⟩
  ·omega
  ·have:=Cells.row hb 0 4;exact this
 refine hA.read (i:=0) rfl rfl (by rw[Gen.gZW];exact Nat.le_refl _) ?_;simp only[HV];refine⟨by decide,?_⟩;have s48:aZE .u64 ((ZC bs 0:Nat):Int) 48=((ZC bs 0/281474976710656:Nat):Int):=hZP (k:=.u64) (a:=ZC bs 0) (i:=48) (n:=48) rfl (by decide);rw[s48];by_cases hmg:ZC bs 0/281474976710656=21061
 case neg=>
  rw[if_neg (fun h=>hmg h.1)];refine ZK (by omega) ?_;refine hs.stw 2 rfl rfl rfl rfl fun H1 hs=>?_
  refine hs.ldw 2 rfl rfl ?_;exact hs.fin 0 rfl _
 refine ZB (by omega) ?_;by_cases hno:gZl bs=true
 case neg=>
  rw[if_neg (fun h=>hno h.2),show gZl bs=false by simpa using hno];refine aZN rfl ?_;refine hs.stw 2 rfl rfl rfl rfl fun H1 hs=>?_
  refine hs.ldw 2 rfl rfl ?_;exact hs.fin 0 rfl _
 rw[if_pos ⟨hmg,hno⟩,hno];refine aZu rfl ?_;refine hA.read (i:=3) rfl rfl (by rw[Gen.gZW];exact Nat.le_refl _) ?_;simp only[HV];refine lZP (r:=3) rfl (by omega) ?_;have hU:Cells H1 (slA A' m' 0 1) (Zd (w3U bs)):=by
  have:=(hA.shift (m:=m') (l:=0) (by rw[Gen.gZW];exact hm')).take 3;have e:Zd (w3U bs)=((Gen.eZH [ZC bs 0,ZC bs 8,ZC bs 16,ZC bs 24]).drop 0).take 3:=by
   show [Value.int .u64 ((UInt64.ofNat (ZC bs 0)).toNat:Int),Value.int .u64 ((UInt64.ofNat (ZC bs 8)).toNat:Int),Value.int .u64 ((UInt64.ofNat (ZC bs 16)).toNat:Int)]=_
   rw[UInt64.toNat_ofNat_of_lt' (cZ6 bs 0),UInt64.toNat_ofNat_of_lt' (cZ6 bs 8),UInt64.toNat_ofNat_of_lt' (cZ6 bs 16)];rfl
  rw[e];exact this
 refine aZc.use (pZT (slA A' m' 0 1) 3 (m'-0) (w3U bs) rfl (by omega) H1 hU) ?_;simp only[HV];by_cases hsl:ZC bs 24=bZp 0 (gZX (w3U bs))
 case neg=>
  rw[if_neg hsl];refine ZK (by omega) ?_;refine hs.stw 2 rfl rfl rfl rfl fun H1 hs=>?_
  refine hs.ldw 2 rfl rfl ?_;exact hs.fin 0 rfl _
 rw[if_pos hsl];refine ZB (by omega) ?_;refine hs.ldw 3 rfl rfl ?_;refine Zc.use (bZZ (hZ8 (ZC bs 0) (ZC bs 8) (ZC bs 16)) H1) ?_;simp only[HV];by_cases hg:(hZ8 (ZC bs 0) (ZC bs 8) (ZC bs 16)).good
 ·rw[if_pos hg,decide_eq_true hg];refine aZu rfl ?_;refine hs.ldw 3 rfl rfl ?_;refine hs.stw 2 rfl rfl rfl rfl fun H1 hs=>?_
  refine hs.ldw 2 rfl rfl ?_;exact hs.fin 0 rfl _
 ·rw[if_neg hg,decide_eq_false hg];refine aZN rfl ?_;refine hs.stw 2 rfl rfl rfl rfl fun H1 hs=>?_
  refine hs.ldw 2 rfl rfl ?_;exact hs.fin 0 rfl _)
end Rec
namespace W
open Go Go.Hw
theorem cZy :prog.follows .mixedOrders=true:=by kernel_rfl
def eZc (p1:Option Addr)(H:Hp)(K:Value→Hp→Prop):Prop:=
 Nw H (.obj (.cells #[.int .i64 0,.int .i64 0,.int .i64 0,.int .i64 0] 30)) fun b1 H1=>Hz 70 #[.pointer p1,.int .i64 0] H1 fun v1 H2=>eZa v1 fun A1 n1 m1 x1=>(BIf (x1 !=0) (StA H2 ⟨b1,0,none⟩ #[.int .i64 0,.int .i64 0,.int .i64 0,.int .i64 0] 4 fun H3=>LdA H3 ⟨b1,0,none⟩ 4 fun l9=>K (.tuple #[.agg l9.toArray,.int .i64 x1]) H3) (Hz 71 #[.slice A1 n1 m1] H2 fun v4 H4=>fZW v4 fun y1 x2=>(Nw H4 (.obj (.cells #[.int .i64 0,.int .i64 0,.int .i64 0,.int .i64 0] 30)) fun b2 H5=>StA H5 ⟨b2,0,none⟩ y1 4 fun H6=>BIf (x2 !=0) (StA H6 ⟨b1,0,none⟩ #[.int .i64 0,.int .i64 0,.int .i64 0,.int .i64 0] 4 fun H7=>LdA H7 ⟨b1,0,none⟩ 4 fun l10=>K (.tuple #[.agg l10.toArray,.int .i64 x2]) H7) (LdA H6 ⟨b2,0,none⟩ 4 fun l7=>HcB 72 #[.pointer p1,.agg l7.toArray] H6 fun c1 H8=>BIf (!c1) (StA H8 ⟨b1,0,none⟩ #[.int .i64 0,.int .i64 0,.int .i64 0,.int .i64 0] 4 fun H9=>LdA H9 ⟨b1,0,none⟩ 4 fun l11=>K (.tuple #[.agg l11.toArray,.int .i64 1]) H9) (LdA H8 ⟨b2,0,none⟩ 4 fun l8=>StA H8 ⟨b1,0,none⟩ l8.toArray 4 fun H10=>LdA H10 ⟨b1,0,none⟩ 4 fun l12=>K (.tuple #[.agg l12.toArray,.int .i64 0]) H10)))))
theorem eZc.ok (p1:Option Addr)(H:Hp)(K:Value→Hp→Prop)(h:eZc p1 H K):Zc prog 38 #[.pointer p1] H K:=
 Zr Tryz.func38 rfl (nbl rfl) (Zf (Λ:=Zn.none (fun _=>none)) cZy _ _ _ _ _ (Eq.mp (by kernel_rfl) h) (Zt _ _ _ _ _))
def fZB (p1:Option Addr)(x1:Int)(x2:Int)(x3:Int)(x4:Int)(H:Hp)(K:Value→Hp→Prop):Prop:=
 Nw H (.obj (.cells #[.int .i64 x1,.int .i64 x2,.int .i64 x3,.int .i64 x4] 30)) fun b1 H1=>LdA H1 ⟨b1,0,none⟩ 4 fun l1=>Hz 94 #[.agg l1.toArray] H1 fun v1 H2=>eZa v1 fun A1 n1 m1 x5=>(BIf (x5 !=0) (K (.int .i64 1) H2) (LdA H2 ⟨b1,0,none⟩ 4 fun l5=>HcB 72 #[.pointer p1,.agg l5.toArray] H2 fun c1 H3=>BIf (!c1) (K (.int .i64 1) H3) (HcI 53 #[.pointer p1,.int .i64 0,.slice A1 n1 m1] H3 fun x6 H4=>BIf (x6 !=0) (K (.int .i64 x6) H4) (HcI 55 #[.pointer p1] H4 fun x7 H5=>K (.int .i64 x7) H5))))
theorem fZB.ok (p1:Option Addr)(x1:Int)(x2:Int)(x3:Int)(x4:Int)(H:Hp)(K:Value→Hp→Prop)(h:fZB p1 x1 x2 x3 x4 H K):Zc prog 58 #[.pointer p1,.agg #[.int .i64 x1,.int .i64 x2,.int .i64 x3,.int .i64 x4]] H K:=
 Zr Tryz.func58 rfl (nbl rfl) (Zf (Λ:=Zn.none (fun _=>none)) cZy _ _ _ _ _ (Eq.mp (by kernel_rfl) h) (Zt _ _ _ _ _))
def aZA.l5.q1 (H9:Hp)(a1:Addr)(K:Value→Hp→Prop):Prop:=
 StA H9 a1 #[.int .i64 0,.int .i64 0,.int .i64 0,.int .i64 0] 4 fun H13=>LdA H13 a1 4 fun l11=>K (.tuple #[.agg l11.toArray,.int .i64 1]) H13
def aZA.l5 (K:Value→Hp→Prop):Nat→Option Addr→Nat→Nat→Addr→Addr→Int→Hp→Prop
 |0,_,_,_,_,_,_,_=>False
 |k+1,A2,n2,m2,a1,a2,x1,H=>
  let R5:=aZA.l5 K k
  BIf (decide (x1<4)) (Hz 103 #[.slice A2 n2 m2,.int .i64 x1] H fun v2 H5=>gZ6 v2 fun x2 x3=>(ixI x1 4 (St H5 ((a2.add (x1.toNat*1)).add 0) (.int .u64 x2) fun H6=>R5 A2 n2 m2 a1 a2 (IntKind.i64.wrap (x1+1)) H6))) (ixI 0 4 (LeW H (a2.add ((0:Int).toNat*1)) fun x4=>(0≤(16:Int)∧ixI 0 4 (LeW H (a2.add ((0:Int).toNat*1)) fun x5=>(0≤(aZF .u64 x5 63)∧ixI 1 4 (LeW H (a2.add ((1:Int).toNat*1)) fun x6=>ixI 2 4 (LeW H (a2.add ((2:Int).toNat*1)) fun x7=>Nw H (.obj (.cells #[.int .i64 0,.int .i64 0,.int .i64 0,.int .i64 0] 30)) fun b3 H7=>StA H7 ⟨b3,0,none⟩ #[.int .i64 (IntKind.i64.wrap (aZF .u64 (aZE .u64 x4 16) 65535)),.int .i64 (IntKind.i64.wrap x6),.int .i64 (aZY .i64 1 (aZF .u64 x5 63)),.int .i64 (IntKind.i64.wrap x7)] 4 fun H8=>ixI 0 4 (LeW H8 (a2.add ((0:Int).toNat*1)) fun x8=>(0≤(32:Int)∧BIf ((aZE .u64 x8 32) !=1094861123) (StA H8 a1 #[.int .i64 0,.int .i64 0,.int .i64 0,.int .i64 0] 4 fun H10=>LdA H10 a1 4 fun l8=>K (.tuple #[.agg l8.toArray,.int .i64 10]) H10) (HcB 104 #[.slice A2 n2 m2] H8 fun c2 H9=>BIf (!c2) (StA H9 a1 #[.int .i64 0,.int .i64 0,.int .i64 0,.int .i64 0] 4 fun H11=>LdA H11 a1 4 fun l9=>K (.tuple #[.agg l9.toArray,.int .i64 10]) H11) (ixI 3 4 (LeW H9 (a2.add ((3:Int).toNat*1)) fun x9=>slB 4 4 none (some 3) fun n3 n4=>QcU 105 #[.slice (slA (some a2) 4 n3 1) (n4-n3) (4-n3)] H9 fun x10=>BIf (x9 !=(IntKind.u64.wrap x10)) (StA H9 a1 #[.int .i64 0,.int .i64 0,.int .i64 0,.int .i64 0] 4 fun H12=>LdA H12 a1 4 fun l10=>K (.tuple #[.agg l10.toArray,.int .i64 9]) H12) (LdA H9 ⟨b3,0,none⟩ 4 fun l4=>QcB 106 #[.agg l4.toArray] H9 fun c3=>BIf (!c3) (aZA.l5.q1 H9 a1 K) (LdA H9 ⟨b3,0,none⟩ 4 fun l5=>QcW 107 #[.agg l5.toArray] H9 fun x11=>ixI 0 4 (LeW H9 (a2.add ((0:Int).toNat*1)) fun x12=>BIf (x11 !=x12) (aZA.l5.q1 H9 a1 K) (LeI H9 ((⟨b3,0,none⟩:Addr).add 2) fun x13=>BIf (x13 !=(n2:Int)) (aZA.l5.q1 H9 a1 K) (LdA H9 ⟨b3,0,none⟩ 4 fun l6=>StA H9 a1 l6.toArray 4 fun H16=>LdA H16 a1 4 fun l14=>K (.tuple #[.agg l14.toArray,.int .i64 0]) H16)))))))))))))))))
def aZA (A1:Option Addr)(n1:Nat)(m1:Nat)(H:Hp)(K:Value→Hp→Prop):Prop:=
 Nw H (.obj (.cells #[.int .i64 0,.int .i64 0,.int .i64 0,.int .i64 0] 30)) fun b1 H1=>HcB 102 #[.slice A1 n1 m1] H1 fun c1 H2=>BIf (!c1) (StA H2 ⟨b1,0,none⟩ #[.int .i64 0,.int .i64 0,.int .i64 0,.int .i64 0] 4 fun H3=>LdA H3 ⟨b1,0,none⟩ 4 fun l7=>K (.tuple #[.agg l7.toArray,.int .i64 15]) H3) (Nw H2 (.obj (.cells #[.int .u64 0,.int .u64 0,.int .u64 0,.int .u64 0] 184)) fun b2 H4=>(∃ k,aZA.l5 K k A1 n1 m1 ⟨b1,0,none⟩ ⟨b2,0,none⟩ 0 H4))
def aZA.l5.L (K:Value→Hp→Prop)(k:Nat):Mid:=fun E D H=>
 DG (E.get? 0) fun w0=>DSl w0 fun A2 n2 m2=>eN E 2 fun a1=>eN E 4 fun a2=>eI E 13 .i64 fun x1=>Zo D (aZA.l5 K k A2 n2 m2 a1 a2 x1 H)
def aZA.Λ5 (_:Value→Hp→Prop)(_R5:Option Addr→Nat→Nat→Addr→Addr→Int→Hp→Prop):Zn:=Zn.none (fun _=>none)
def aZA.Λ (K:Value→Hp→Prop):Zn:=⟨fun i=>none,fun i=>match Nat.beq i 5 with|true=>some (fun E D H=>∃ k,aZA.l5.L K k E D H)|false=>none,(fun _=>none)⟩
theorem aZA.ok (A1:Option Addr)(n1:Nat)(m1:Nat)(H:Hp)(K:Value→Hp→Prop)(h:aZA A1 n1 m1 H K):Zc prog 71 #[.slice A1 n1 m1] H K:=
 Zr Tryz.func71 rfl (nbl rfl) (Zf (Λ:=(aZA.Λ K)) cZy _ _ _ _ _ (Eq.mp (by kernel_rfl) h) (Zb Za rfl (Zb (Zb Za rfl (Zk (Zb Za rfl Zy) Zl)) rfl (Zb Za rfl (Zb (Zb Za rfl (Zu (ZZ rfl (fun E D H h=>by
   refine Safe.loop' (aZA.l5.L K) (fun E D H h=>?_) (fun k E D H h=>?_) E D H h
   ·obtain⟨w0,e0,g1⟩:=DG.out h;obtain⟨A2,n2,m2,rfl,g2⟩:=DSl.out g1;obtain⟨w2,e2,g3⟩:=DG.out g2;obtain⟨pw2,rfl,g4⟩:=DP.out g3;obtain⟨a1,rfl,g5⟩:=NN.out g4;obtain⟨w4,e4,g6⟩:=DG.out g5;obtain⟨pw4,rfl,g7⟩:=DP.out g6;obtain⟨a2,rfl,g8⟩:=NN.out g7;obtain⟨w13,e13,g9⟩:=DG.out g8;obtain⟨x1,rfl,g10⟩:=DI.out g9;obtain⟨rfl,h'⟩:=Zo.out g10;exact h'
   ·obtain⟨w0,e0,g1⟩:=DG.out h;obtain⟨A2,n2,m2,rfl,g2⟩:=DSl.out g1;obtain⟨a1,e2,g5⟩:=GN g2;obtain⟨a2,e4,g8⟩:=GN g5;obtain⟨x1,e13,g10⟩:=GI g8;obtain⟨rfl,h'⟩:=Zo.out g10;exact(Zf (Λ:=(aZA.Λ5 K (aZA.l5 K k))) cZy _ _ [(0,.slice A2 n2 m2),(2,.pointer (some a1)),(4,.pointer (some a2)),(13,.int .i64 x1)] [] H (Eq.mp (by kernel_rfl) h') (Zb Za rfl (Zb (Zk Zl ZS) rfl (Zb (Zu (Zb Za rfl (Zb Za rfl Za))) rfl Za)))).weaken (Ze.cons e0 (Ze.cons e2 (Ze.cons e4 (Ze.cons e13 (Ze.nil _))))) (Hp.le_refl _))))) rfl (Zb Za rfl (Zb (Zu (Zb Za rfl (Zk (Zb Za rfl Zy) (Zb Za rfl (Zk (Zb Za rfl Zy) (Zb Za rfl (Zk (Zb Za rfl Zy) Zl))))))) rfl (Zb Za rfl Zy))))))))
def hZk (p1:Option Addr)(x1:Int)(x2:Int)(x3:Int)(x4:Int)(H:Hp)(K:Value→Hp→Prop):Prop:=
 Nw H (.obj (.cells #[.int .i64 x1,.int .i64 x2,.int .i64 x3,.int .i64 x4] 30)) fun b1 H1=>LeI H1 ((⟨b1,0,none⟩:Addr).add 1) fun x5=>NN p1 fun a1=>QcI 50 #[.pointer (some (a1.add 0))] H1 fun x6=>BIf (x5==x6) (LeI H1 ((⟨b1,0,none⟩:Addr).add 2) fun x7=>NN p1 fun a2=>QcI 51 #[.pointer (some (a2.add 0))] H1 fun x8=>K (.bool (x7==x8)) H1) (K (.bool false) H1)
theorem hZk.ok (p1:Option Addr)(x1:Int)(x2:Int)(x3:Int)(x4:Int)(H:Hp)(K:Value→Hp→Prop)(h:hZk p1 x1 x2 x3 x4 H K):Zc prog 72 #[.pointer p1,.agg #[.int .i64 x1,.int .i64 x2,.int .i64 x3,.int .i64 x4]] H K:=
 Zr Tryz.func72 rfl (nbl rfl) (Zf (Λ:=Zn.none (fun _=>none)) cZy _ _ _ _ _ (Eq.mp (by kernel_rfl) h) (Zt _ _ _ _ _))
def eZ3 (x1:Int)(x2:Int)(x3:Int)(x4:Int)(H:Hp)(K:Value→Hp→Prop):Prop:=
 Nw H (.obj (.cells #[.int .i64 x1,.int .i64 x2,.int .i64 x3,.int .i64 x4] 30)) fun b1 H1=>Nw H1 (.obj (.cells #[.int .i64 0,.int .i64 0,.int .i64 0,.int .i64 0,.int .i64 0,.int .i64 0,.int .i64 0,.int .i64 0,.int .i64 0,.int .i64 0,.int .i64 0,.int .i64 0,.int .i64 0,.int .i64 0,.int .i64 0,.int .i64 0,.int .i64 0] 101)) fun b2 H2=>LdA H2 ⟨b1,0,none⟩ 4 fun l1=>HcB 106 #[.agg l1.toArray] H2 fun c1 H3=>BIf (!c1) (StA H3 ⟨b2,0,none⟩ #[.int .i64 0,.int .i64 0,.int .i64 0,.int .i64 0,.int .i64 0,.int .i64 0,.int .i64 0,.int .i64 0,.int .i64 0,.int .i64 0,.int .i64 0,.int .i64 0,.int .i64 0,.int .i64 0,.int .i64 0,.int .i64 0,.int .i64 0] 17 fun H4=>LdA H4 ⟨b2,0,none⟩ 17 fun l5=>K (.tuple #[.agg l5.toArray,.int .i64 1]) H4) (LeI H3 ((⟨b1,0,none⟩:Addr).add 0) fun x5=>LeI H3 ((⟨b1,0,none⟩:Addr).add 1) fun x6=>LeI H3 ((⟨b1,0,none⟩:Addr).add 2) fun x7=>Hz 89 #[.int .i64 x5,.int .i64 x6,.int .i64 x7] H3 fun v5 H5=>fZW v5 fun y1 x8=>(StA H5 ⟨b2,0,none⟩ y1 17 fun H6=>LdA H6 ⟨b2,0,none⟩ 17 fun l6=>K (.tuple #[.agg l6.toArray,.int .i64 x8]) H6))
theorem eZ3.ok (x1:Int)(x2:Int)(x3:Int)(x4:Int)(H:Hp)(K:Value→Hp→Prop)(h:eZ3 x1 x2 x3 x4 H K):Zc prog 73 #[.agg #[.int .i64 x1,.int .i64 x2,.int .i64 x3,.int .i64 x4]] H K:=
 Zr Tryz.func73 rfl (nbl rfl) (Zf (Λ:=Zn.none (fun _=>none)) cZy _ _ _ _ _ (Eq.mp (by kernel_rfl) h) (Zt _ _ _ _ _))
def eZC (x1:Int)(x2:Int)(x3:Int)(x4:Int)(H:Hp)(K:Value→Hp→Prop):Prop:=
 Nw H (.obj (.cells #[.int .i64 x1,.int .i64 x2,.int .i64 x3,.int .i64 x4] 30)) fun b1 H1=>LdA H1 ⟨b1,0,none⟩ 4 fun l1=>HcB 106 #[.agg l1.toArray] H1 fun c1 H2=>BIf (!c1) (K (.tuple #[.slice none 0 0,.int .i64 1]) H2) (LdA H2 ⟨b1,0,none⟩ 4 fun l2=>QcW 107 #[.agg l2.toArray] H2 fun x5=>LeI H2 ((⟨b1,0,none⟩:Addr).add 1) fun x6=>LeI H2 ((⟨b1,0,none⟩:Addr).add 3) fun x7=>Nw H2 (.row [.int .u64 x5,.int .u64 (IntKind.u64.wrap x6),.int .u64 (IntKind.u64.wrap x7)] 84 3) fun b2 H3=>LeI H3 ((⟨b1,0,none⟩:Addr).add 2) fun x8=>MkS prog 5 x8 x8 H3 fun v6 H4=>DSl v6 fun A1 n1 m1=>HcU 105 #[.slice (some ⟨b2,0,none⟩) 3 3] H4 fun x9 H5=>Nw H5 (.row [.int .u64 (IntKind.u64.wrap x9)] 84 1) fun b3 H6=>cZ7 prog 84 (.slice (some ⟨b2,0,none⟩) 3 3) (.slice (some ⟨b3,0,none⟩) 1 1) H6 fun v8 H7=>DSl v8 fun A2 n2 m2=>HcS 140 #[.slice A2 n2 m2] H7 fun A3 n3 m3 H8=>CpK prog 5 (.slice A1 n1 m1) (.slice A3 n3 m3) H8 fun v10 H9=>DI .i64 v10 fun x10=>K (.tuple #[.slice A1 n1 m1,.int .i64 0]) H9)
theorem eZC.ok (x1:Int)(x2:Int)(x3:Int)(x4:Int)(H:Hp)(K:Value→Hp→Prop)(h:eZC x1 x2 x3 x4 H K):Zc prog 94 #[.agg #[.int .i64 x1,.int .i64 x2,.int .i64 x3,.int .i64 x4]] H K:=
 Zr Tryz.func94 rfl (nbl rfl) (Zf (Λ:=Zn.none (fun i=>match Nat.beq i 3 with|true=>some ([],[0,1,2,3,4,5,6,7],8)|false=>none)) cZy _ _ _ _ _ (Eq.mp (by kernel_rfl) h) (Zt _ _ _ _ _))
def eZ4 (A1:Option Addr)(n1:Nat)(m1:Nat)(H:Hp)(K:Value→Hp→Prop):Prop:=
 Hz 137 #[.int .i64 0,.int .i64 (n1:Int)] H fun v1 H1=>jZb v1 fun x1 x2=>(K (.bool (x2==0)) H1)
theorem eZ4.ok (A1:Option Addr)(n1:Nat)(m1:Nat)(H:Hp)(K:Value→Hp→Prop)(h:eZ4 A1 n1 m1 H K):Zc prog 102 #[.slice A1 n1 m1] H K:=
 Zr Tryz.func102 rfl (nbl rfl) (Zf (Λ:=Zn.none (fun _=>none)) cZy _ _ _ _ _ (Eq.mp (by kernel_rfl) h) (Zt _ _ _ _ _))
def aZQ.l2 (K:Value→Hp→Prop):Nat→Option Addr→Nat→Nat→Int→Int→Hp→Prop
 |0,_,_,_,_,_,_=>False
 |k+1,A2,n4,m2,x1,x2,H=>
  let R2:=aZQ.l2 K k
  BIf (decide (x2<x1)) (ixI x2 n4 (NN A2 fun a1=>LeV H (a1.add (x2.toNat*1)) fun x3=>BIf (x3 !=0) (K (.bool false) H) (R2 A2 n4 m2 x1 (IntKind.i64.wrap (x2+1)) H))) (K (.bool true) H)
def aZQ (A1:Option Addr)(n1:Nat)(m1:Nat)(H:Hp)(K:Value→Hp→Prop):Prop:=
 slB n1 m1 (some 32) none fun n2 n3=>(∃ k,aZQ.l2 K k (slA A1 m1 n2 1) (n3-n2) (m1-n2) ((n3-n2:Nat):Int) 0 H)
def aZQ.l2.L (K:Value→Hp→Prop)(k:Nat):Mid:=fun E D H=>
 DG (E.get? 6) fun w6=>DSl w6 fun A2 n4 m2=>eI E 7 .i64 fun x1=>eI E 8 .i64 fun x2=>Zo D (aZQ.l2 K k A2 n4 m2 x1 x2 H)
def aZQ.Λ2 (_:Value→Hp→Prop)(_R2:Option Addr→Nat→Nat→Int→Int→Hp→Prop):Zn:=Zn.none (fun _=>none)
def aZQ.Λ (K:Value→Hp→Prop):Zn:=⟨fun i=>none,fun i=>match Nat.beq i 2 with|true=>some (fun E D H=>∃ k,aZQ.l2.L K k E D H)|false=>none,(fun _=>none)⟩
theorem aZQ.ok (A1:Option Addr)(n1:Nat)(m1:Nat)(H:Hp)(K:Value→Hp→Prop)(h:aZQ A1 n1 m1 H K):Zc prog 104 #[.slice A1 n1 m1] H K:=
 Zr Tryz.func104 rfl (nbl rfl) (Zf (Λ:=(aZQ.Λ K)) cZy _ _ _ _ _ (Eq.mp (by kernel_rfl) h) (Zb Za rfl (Zb (Zb Za rfl (Zu (ZZ rfl (fun E D H h=>by
   refine Safe.loop' (aZQ.l2.L K) (fun E D H h=>?_) (fun k E D H h=>?_) E D H h
   ·obtain⟨w6,e6,g1⟩:=DG.out h;obtain⟨A2,n4,m2,rfl,g2⟩:=DSl.out g1;obtain⟨w7,e7,g3⟩:=DG.out g2;obtain⟨x1,rfl,g4⟩:=DI.out g3;obtain⟨w8,e8,g5⟩:=DG.out g4;obtain⟨x2,rfl,g6⟩:=DI.out g5;obtain⟨rfl,h'⟩:=Zo.out g6;exact h'
   ·obtain⟨w6,e6,g1⟩:=DG.out h;obtain⟨A2,n4,m2,rfl,g2⟩:=DSl.out g1;obtain⟨x1,e7,g4⟩:=GI g2;obtain⟨x2,e8,g6⟩:=GI g4;obtain⟨rfl,h'⟩:=Zo.out g6;exact(Zf (Λ:=(aZQ.Λ2 K (aZQ.l2 K k))) cZy _ _ [(6,.slice A2 n4 m2),(7,.int .i64 x1),(8,.int .i64 x2)] [] H (Eq.mp (by kernel_rfl) h') (Zb Za rfl (Zb (Zk Zl ZS) rfl (Zb (Zu (Zb Za rfl (Zb Za rfl (Zk (Zb Za rfl Zy) Zl)))) rfl Za)))).weaken (Ze.cons e6 (Ze.cons e7 (Ze.cons e8 (Ze.nil _)))) (Hp.le_refl _))))) rfl (Zb Za rfl Zy))))
def gZd (x1:Int)(x2:Int)(x3:Int)(x4:Int)(H:Hp)(K:Value→Hp→Prop):Prop:=
 Nw H (.obj (.cells #[.int .i64 x1,.int .i64 x2,.int .i64 x3,.int .i64 x4] 30)) fun b1 H1=>LeI H1 ((⟨b1,0,none⟩:Addr).add 0) fun x5=>LeI H1 ((⟨b1,0,none⟩:Addr).add 1) fun x6=>LeI H1 ((⟨b1,0,none⟩:Addr).add 2) fun x7=>Hz 89 #[.int .i64 x5,.int .i64 x6,.int .i64 x7] H1 fun v4 H2=>fZW v4 fun y1 x8=>(Nw H2 (.obj (.cells #[.int .i64 0,.int .i64 0,.int .i64 0,.int .i64 0,.int .i64 0,.int .i64 0,.int .i64 0,.int .i64 0,.int .i64 0,.int .i64 0,.int .i64 0,.int .i64 0,.int .i64 0,.int .i64 0,.int .i64 0,.int .i64 0,.int .i64 0] 101)) fun b2 H3=>StA H3 ⟨b2,0,none⟩ y1 17 fun H4=>BIf (x8==0) (LeI H4 ((⟨b1,0,none⟩:Addr).add 3) fun x9=>BIf (decide (x9≥1)) (LeI H4 ((⟨b1,0,none⟩:Addr).add 3) fun x10=>K (.bool (decide (x10≤(16777216:Int)))) H4) (K (.bool false) H4)) (K (.bool false) H4))
theorem gZd.ok (x1:Int)(x2:Int)(x3:Int)(x4:Int)(H:Hp)(K:Value→Hp→Prop)(h:gZd x1 x2 x3 x4 H K):Zc prog 106 #[.agg #[.int .i64 x1,.int .i64 x2,.int .i64 x3,.int .i64 x4]] H K:=
 Zr Tryz.func106 rfl (nbl rfl) (Zf (Λ:=Zn.none (fun _=>none)) cZy _ _ _ _ _ (Eq.mp (by kernel_rfl) h) (Zt _ _ _ _ _))
def fZC (x1:Int)(x2:Int)(x3:Int)(x4:Int)(H:Hp)(K:Value→Hp→Prop):Prop:=
 Nw H (.obj (.cells #[.int .i64 x1,.int .i64 x2,.int .i64 x3,.int .i64 x4] 30)) fun b1 H1=>LeI H1 ((⟨b1,0,none⟩:Addr).add 0) fun x5=>(0≤(16:Int)∧LeI H1 ((⟨b1,0,none⟩:Addr).add 2) fun x6=>QcI 148 #[.int .u64 (IntKind.u64.wrap x6)] H1 fun x7=>K (.int .u64 (bOr .u64 (bOr .u64 4702392716946833408 (aZY .u64 (IntKind.u64.wrap x5) 16)) (IntKind.u64.wrap (IntKind.i64.wrap (x7-1))))) H1)
theorem fZC.ok (x1:Int)(x2:Int)(x3:Int)(x4:Int)(H:Hp)(K:Value→Hp→Prop)(h:fZC x1 x2 x3 x4 H K):Zc prog 107 #[.agg #[.int .i64 x1,.int .i64 x2,.int .i64 x3,.int .i64 x4]] H K:=
 Zr Tryz.func107 rfl (nbl rfl) (Zf (Λ:=Zn.none (fun _=>none)) cZy _ _ _ _ _ (Eq.mp (by kernel_rfl) h) (Zt _ _ _ _ _))
end W
namespace Sup
open Go Go.Hw Go.Form W Lay
def bZX (k sec s ar:Int):Array Value:=#[.int .i64 k,.int .i64 sec,.int .i64 s,.int .i64 ar]
def bZz (k sec s ar:Int):Bool:=decide (0≤k∧k≤32∧0<aZL s∧(cZN k.toNat (aZL s):Int)≤sec∧1≤ar∧ar≤16777216)
theorem kZz (k sec s:Int):(OfV k sec s).1.size=17:=by
 unfold OfV;split
 ·split<;>rfl
 ·rfl
theorem pZk (k sec s:Int):(OfV k sec s).1.toList.all (fun v=>v.oneCell')=true:=by
 unfold OfV;split
 ·split<;>rfl
 ·rfl
theorem bZZ (k sec s ar:Int)(H:Hp):Zc prog 106 #[.agg (bZX k sec s ar)] H (RetE (.bool (bZz k sec s ar)) H):=by
 apply Zc.ret;apply gZd.ok;unfold gZd;simp only[HS];refine(Sep.start H).nw fun b1 H hs=>?_
 first|refine hs.ld 1 rfl rfl ?_|refine hs.ld 2 rfl rfl ?_|refine hs.ld 3 rfl rfl ?_|refine hs.ld 4 rfl rfl ?_|refine hs.ld 5 rfl rfl ?_|refine hs.ld 6 rfl rfl ?_|refine hs.ld 7 rfl rfl ?_|refine hs.ld 8 rfl rfl ?_
 try simp only[HV]
 first|refine hs.ld 1 rfl rfl ?_|refine hs.ld 2 rfl rfl ?_|refine hs.ld 3 rfl rfl ?_|refine hs.ld 4 rfl rfl ?_|refine hs.ld 5 rfl rfl ?_|refine hs.ld 6 rfl rfl ?_|refine hs.ld 7 rfl rfl ?_|refine hs.ld 8 rfl rfl ?_
 try simp only[HV]
 first|refine hs.ld 1 rfl rfl ?_|refine hs.ld 2 rfl rfl ?_|refine hs.ld 3 rfl rfl ?_|refine hs.ld 4 rfl rfl ?_|refine hs.ld 5 rfl rfl ?_|refine hs.ld 6 rfl rfl ?_|refine hs.ld 7 rfl rfl ?_|refine hs.ld 8 rfl rfl ?_
 try simp only[HV]
 refine Zc.use (eZJ k sec s H) ?_
 try simp only[HV]
 refine hs.nw fun b2 H hs=>?_
 refine hs.stw 2 rfl rfl (kZz _ _ _) (pZk _ _ _) fun H hs=>?_;have hr:=hs.fin 0 rfl (.bool (bZz k sec s ar));by_cases h:0≤k∧k≤32∧0<aZL s∧(cZN k.toNat (aZL s):Int)≤sec
 ·have:(OfV k sec s).2=0:=by unfold OfV;rw[if_pos (by omega),if_neg (by omega)]
  rw[this];refine aZN rfl ?_
  first|refine hs.ld 1 rfl rfl ?_|refine hs.ld 2 rfl rfl ?_|refine hs.ld 3 rfl rfl ?_|refine hs.ld 4 rfl rfl ?_|refine hs.ld 5 rfl rfl ?_|refine hs.ld 6 rfl rfl ?_|refine hs.ld 7 rfl rfl ?_|refine hs.ld 8 rfl rfl ?_
  try simp only[HV]
  by_cases h2:ar≥1
  ·refine Zw h2 ?_
   first|refine hs.ld 1 rfl rfl ?_|refine hs.ld 2 rfl rfl ?_|refine hs.ld 3 rfl rfl ?_|refine hs.ld 4 rfl rfl ?_|refine hs.ld 5 rfl rfl ?_|refine hs.ld 6 rfl rfl ?_|refine hs.ld 7 rfl rfl ?_|refine hs.ld 8 rfl rfl ?_
   try simp only[HV]
   have:decide (ar≤16777216)=bZz k sec s ar:=by unfold bZz;simp only[decide_eq_decide];omega
   rw[this];exact hr
  ·refine Zm h2 ?_;have:false=bZz k sec s ar:=by unfold bZz;symm;simp only[decide_eq_false_iff_not];omega
   rw[this];exact hr
 ·refine aZu ?_ ?_
  ·have:(OfV k sec s).2=1∨(OfV k sec s).2=7:=by
    unfold OfV;split
    ·rw[if_pos (by omega)];exact .inr rfl
    ·exact .inl rfl
   rcases this with e|e<;>rw[e]<;>rfl
  ·have:false=bZz k sec s ar:=by unfold bZz;symm;simp only[decide_eq_false_iff_not];omega
   rw[this];exact hr
def cZG (s:Int):Int:=if s=32 then 5 else if s=64 then 6 else if s=128 then 7 else if s=256 then 8 else if s=512 then 9 else if s=1024 then 10 else if s=2048 then 11 else if s=4096 then 12 else -1
theorem iZt (s:Int):(0<aZL s∧s=8*aZL s∧5≤cZG s∧cZG s≤12∧aZL s=2^(cZG s-3).toNat)∨(aZL s=0∧cZG s=-1):=by
 unfold aZL cZG
 repeat' split
 all_goals first|(subst_vars;left;decide)|(right;exact⟨rfl,rfl⟩)
end Sup
namespace Rec
open Go Go.Hw Go.Form Go.Crc W FormP
theorem kZV (s:Int):secB s=true↔0<Lay.aZL s:=by
 unfold secB Lay.gZF;by_cases h:0<Lay.aZL s
 ·rw[if_pos ⟨by omega,by omega,h⟩];simp[h]
 ·rw[if_neg (fun g=>h g.2.2)];simp[h]
theorem vZy {s:Int}(h:secB s=true):32≤s∧s≤4096:=by
 rw[kZV]at h;refine⟨Int.not_lt.1 fun g=>?_,Int.not_lt.1 fun g=>?_⟩
 ·rw[Lay.iZU g]at h;omega
 ·rw[Lay.iZT g]at h;omega
theorem wZW {p q:Nat}(hp:p<4294967296)(hq:q<4294967296):bZp 0 [(p,32),(q,0)]=p*4294967296+q:=by
 show(0|||(p*2^32%2^64))|||(q*2^0%2^64)=_
 rw[Nat.zero_or,Nat.mod_eq_of_lt (by omega),Nat.pow_zero,Nat.mul_one,Nat.mod_eq_of_lt (by omega),Nat.mul_comm p,←Nat.two_pow_add_eq_or_of_lt (i:=32) hq p]
theorem jZs {w q:Nat}(k:Nat)(hw:2^k∣w)(hq:q<2^k):w|||q=w+q:=by
 obtain⟨t,rfl⟩:=hw;exact(Nat.two_pow_add_eq_or_of_lt hq t).symm
theorem sZe (r:R)(hg:r.good):bZp 0 r.p1=5928144484503126016+r.s:=by
 obtain⟨g1,g2,_⟩:=hg;show(0|||(21061*2^48%2^64))|||(r.s*2^0%2^64)=_
 rw[Nat.zero_or,Nat.pow_zero,Nat.mul_one,Nat.mod_eq_of_lt (show r.s<2^64 by omega),jZs 48 ⟨21061,by decide⟩ (by omega)]
theorem wZv (r:R)(hu:r.u32):bZp 0 r.p3=r.inp*4294967296+r.out:=wZW hu.inp hu.out
theorem wZu (r:R)(hg:r.good)(hu:r.u32):bZp 0 r.p2=r.ld*4294967296+r.ps.toNat*16777216+r.kk.toNat*65536+r.dir.toNat*256+r.kd.toNat:=by
 obtain⟨g1,g2,g3,g4,g5,g6⟩:=hg;have hu:=hu.ld;have h1:r.ps.toNat<256:=by omega
 have h2:r.kk.toNat<256:=by omega
 have h3:r.dir.toNat<256:=by omega
 have h4:r.kd.toNat<256:=by omega
 show((((0|||(r.ld*2^32%2^64))|||(r.ps.toNat*2^24%2^64))|||(r.kk.toNat*2^16%2^64))|||(r.dir.toNat*2^8%2^64))|||(r.kd.toNat*2^0%2^64)=_
 generalize r.ps.toNat=a at*;generalize r.kk.toNat=b at*;generalize r.dir.toNat=c at*;generalize r.kd.toNat=d at*;generalize r.ld=l at*;rw[Nat.zero_or,Nat.mod_eq_of_lt (show l*2^32<2^64 by omega),Nat.mod_eq_of_lt (show a*2^24<2^64 by omega),Nat.mod_eq_of_lt (show b*2^16<2^64 by omega),Nat.mod_eq_of_lt (show c*2^8<2^64 by omega),Nat.pow_zero,Nat.mul_one,Nat.mod_eq_of_lt (show d<2^64 by omega)];rw[jZs 32 ⟨l,Nat.mul_comm _ _⟩ (show a*2^24<2^32 by omega),jZs 24 ⟨l*256+a,by omega⟩ (show b*2^16<2^24 by omega),jZs 16 ⟨(l*256+a)*256+b,by omega⟩ (show c*2^8<2^16 by omega),jZs 8 ⟨((l*256+a)*256+b)*256+c,by omega⟩ (show d<2^8 by omega)]
structure R.wf (r:R):Prop where
 s:r.s<2^64
 kd: -9223372036854775808≤r.kd∧r.kd≤9223372036854775807
 kk: -9223372036854775808≤r.kk∧r.kk≤9223372036854775807
 dir: -9223372036854775808≤r.dir∧r.dir≤9223372036854775807
 ps: -9223372036854775808≤r.ps∧r.ps≤9223372036854775807
 u:r.u32
def R.form (r:R)(size:Nat):List UInt8:=Form.form r.w4++List.replicate (size-32) 0
theorem jZT (r:R):(Form.form r.w4).length=32:=by rw[bZh];rfl
theorem jZv (r:R){size:Nat}(h:32≤size):(r.form size).length=size:=by
 unfold R.form;rw[List.length_append,jZT,List.length_replicate];omega
theorem oZH (r:R)(size:Nat):gZl (r.form size)=true:=by
 unfold gZl R.form;refine decide_eq_true fun x hx=>?_
 rw[List.drop_append,jZT,Nat.sub_self,List.drop_eq_nil_of_le (by rw[jZT];exact Nat.le_refl _),List.nil_append,List.drop_zero]at hx;exact(List.mem_replicate.1 hx).2
theorem vZs (r:R)(hg:r.good)(hu:r.u32):hZ8 (bZp 0 r.p1) (bZp 0 r.p2) (bZp 0 r.p3)=r:=by
 rw[sZe r hg,wZu r hg hu,wZv r hu];obtain⟨g1,g2,g3,g4,g5,g6⟩:=hg;obtain⟨u1,u2,u3⟩:=hu;obtain⟨s,kd,kk,dir,ps,ld,inp,out⟩:=r;simp only at*;unfold hZ8;congr 1<;>omega
theorem pZc (r:R)(size:Nat):ZC (r.form size) 0=bZp 0 r.p1∧ZC (r.form size) 8=bZp 0 r.p2∧ZC (r.form size) 16=bZp 0 r.p3∧ZC (r.form size) 24=bZp 0 (gZX r.w3):=by
 have h4:r.w4.length=4:=rfl;have w0:=fZe (l:=r.w4) (i:=0) (by omega) (List.replicate (size-32) 0);have w1:=fZe (l:=r.w4) (i:=1) (by omega) (List.replicate (size-32) 0);have w2:=fZe (l:=r.w4) (i:=2) (by omega) (List.replicate (size-32) 0);have w3:=fZe (l:=r.w4) (i:=3) (by omega) (List.replicate (size-32) 0);refine⟨w0.trans ?_,w1.trans ?_,w2.trans ?_,w3.trans ?_⟩
 ·exact UInt64.toNat_ofNat_of_lt' (eZt r.p1 0 (by decide))
 ·exact UInt64.toNat_ofNat_of_lt' (eZt r.p2 0 (by decide))
 ·exact UInt64.toNat_ofNat_of_lt' (eZt r.p3 0 (by decide))
 ·exact UInt64.toNat_ofNat_of_lt' (eZt (gZX r.w3) 0 (by decide))
theorem qZX (r:R)(hg:r.good)(hu:r.u32){size:Nat}(h32:32≤size)(hs:secB (size:Int)=true):bZc (r.form size)=(r,0):=by
 obtain⟨w0,w1,w2,w3⟩:=pZc r size;have hU:w3U (r.form size)=r.w3:=by
  unfold w3U;rw[w0,w1,w2];rfl
 have hr:=vZs r hg hu;have hm:bZp 0 r.p1/281474976710656=21061:=by
  have:=sZe r hg;have:=hg.1;have:=hg.2.1;omega
 unfold bZc;rw[jZv r h32,if_pos hs,hU,w0,w1,w2,w3,hr,if_pos ⟨hm,oZH r size⟩,if_pos rfl,if_pos hg]
end Rec
namespace Rng
open Go Go.Hw W Rec Srt Dsk
def aZi (p:Nat)(f n w:Int):AO:=.obj (.cells #[.int .i64 f,.int .i64 n,.int .i64 w,.pointer (some ⟨p,0,none⟩)] 173)
def lZ8 (d:D)(f n:Int):Bool:=decide (2≤n∧0≤f∧f<d.sec∧n≤d.sec-f)
def lZZ (p:Nat)(d:D)(f n w:Int)(v:Value)(M:List As):Prop:=
 (lZ8 d f n=true∧∃ b,v= .tuple #[.pointer (some ⟨b,0,none⟩),.int .i64 0]∧M=[Dk p d,pts b (aZi p f n w)])∨(lZ8 d f n=false∧v= .tuple #[.pointer none,.int .i64 2]∧M=[Dk p d])
theorem lZZ.yes {p:Nat}{d:D}{f n w:Int}(h:lZ8 d f n=true)(b:Nat):lZZ p d f n w (.tuple #[.pointer (some ⟨b,0,none⟩),.int .i64 0]) [Dk p d,pts b (aZi p f n w)]:=.inl ⟨h,b,rfl,rfl⟩
theorem lZZ.no {p:Nat}{d:D}{f n w:Int}(h:lZ8 d f n=false):lZZ p d f n w (.tuple #[.pointer none,.int .i64 2]) [Dk p d]:=.inr ⟨h,rfl,rfl⟩
theorem dZA {p:Nat}{d:D}(hok:Ok d)(f n w:Int)(hf: -9223372036854775808≤f∧f≤9223372036854775807):
  Tr prog 74 #[.pointer (some ⟨p,0,none⟩),.agg #[.int .i64 f,.int .i64 n,.int .i64 w]] [Dk p d] (lZZ p d f n w):=fun H hs=>by
 have hsec:=hok.sec;apply hZj.ok;unfold hZj;refine hs.nw fun b1 H hs=>?_
 have hs:Hw.Sep [Dk p d,pts b1 (.obj (.cells #[.int .i64 f,.int .i64 n,.int .i64 w] 98))] H:=hs;have bad:lZ8 d f n=false→∃ M,lZZ p d f n w (.tuple #[.pointer none,.int .i64 2]) M∧Hw.Sep M H:=fun h=>⟨_,.no h,hs.re [0] rfl⟩
 refine aZu rfl ?_;refine hs.ldf 1 rfl rfl ?_;simp only[HV];by_cases h1:n<2
 ·exact Zw h1 (bad (decide_eq_false (by omega)))
 refine Zm h1 ?_;refine hs.ldf 1 rfl rfl ?_;simp only[HV];by_cases h2:f<0
 ·exact Zw h2 (bad (decide_eq_false (by omega)))
 refine Zm h2 ?_;refine hs.ldf 1 rfl rfl ?_;simp only[HV];refine aZc.use (eZN hs 0 rfl) ?_;simp only[HV];by_cases h3:f≥(d.sec:Int)
 ·exact Zw h3 (bad (decide_eq_false (by omega)))
 refine Zm h3 ?_;refine hs.ldf 1 rfl rfl ?_;simp only[HV];refine aZc.use (eZN hs 0 rfl) ?_;simp only[HV];refine hs.ldf 1 rfl rfl ?_;simp only[HV];rw[ZV (x:=(d.sec:Int)-f) (by omega) (by omega)];by_cases h4:n>(d.sec:Int)-f
 ·exact Zw h4 (bad (decide_eq_false (by omega)))
 refine Zm h4 ?_
 first|refine hs.ldw 1 rfl rfl ?_
 try simp only[HV]
 refine hs.nw fun b2 H hs=>?_
 exact⟨_,.yes (decide_eq_true (by omega)) b2,hs.re [0,2] rfl⟩
def aZ2 (f n:Nat)(s:Nat):Nat:=f+(s-1)%n
theorem pZW {L:List As}{H:Hp}(hs:Hw.Sep L H)(i:Nat){b p:Nat}{f n:Nat}{w:Int}(hi:L[i]? =some (pts b (aZi p f n w)))(hf:f≤1048576)(hn:1≤n)(hn2:n≤1048576)(s:Nat)(h1:1≤s)(h2:s<18446744073709551616):
  Zc prog 109 #[.pointer (some ⟨b,0,none⟩),.int .u64 (s:Int)] H (RetE (.int .i64 (aZ2 f n s:Int)) H):=by
 apply eZm.ok;unfold eZm;simp only[HS];refine hs.ld i hi rfl ?_;simp only[HV]
 try simp only[HS]
 refine hs.ld i hi rfl ?_;simp only[HV];have hm:(s-1)%n<n:=Nat.mod_lt _ (by omega);rw[bZ1 (by omega),dZj (x:=(s:Int)-1) (by omega) (by omega),show(s:Int)-1=((s-1:Nat):Int) by omega,show Int.tmod ((s-1:Nat):Int) (n:Int)=(((s-1)%n:Nat):Int)from rfl,bZi (by omega),ZV (by omega) (by omega)];refine⟨by omega,by simp,?_⟩;unfold aZ2;exact RetE.of (by rw[Int.natCast_add])
def fZd (f n:Nat)(bs:List UInt8)(i:Nat):List R:=if(bZc bs).2=0∧aZ2 f n (bZc bs).1.s=f+i then [(bZc bs).1]else []
def D.red (d:D):D:={ d.burnt with rd:=d.rd+1}
theorem Ok.red {d:D}(hok:Ok d):Ok (D.red d):=⟨hok.burnt.sec,hok.burnt.size,hok.burnt.big,hok.burnt.per,hok.burnt.safe,hok.burnt.cache,hok.burnt.fz⟩
def cZ2 (f n:Nat):Nat→Nat→D→List R→Int×D×List R
 |0,_,d,acc=>(0,d,acc)
 |k+1,i,d,acc=>if d.chk ((f+i:Nat):Int)≠0 then(d.chk ((f+i:Nat):Int),d,[])else if d.burns=true then(8,d.burnt,[])else cZ2 f n k (i+1) (D.red d) (acc++fZd f n (d.now ((f+i:Nat):Int)) i)
def lZa (b p f n:Nat)(w:Int)(r:Int×D×List R)(v:Value)(M:List As):Prop:=
 ∃ A m,v= .tuple #[.slice A r.2.2.length m,.int .i64 r.1]∧M=[Dk p r.2.1,pts b (aZi p f n w),Own 93 8 A r.2.2.length m (cZr (bZ8 r.2.2 (r.2.2.length-1)))]∧r.2.2.length≤m
theorem qZY {bs:List UInt8}(h:(bZc bs).2=0):(bZc bs).1.good:=by
 unfold bZc at h⊢;split at h
 ·rename_i h1
  rw[if_pos h1];split at h
  ·rename_i h2
   rw[if_pos h2];split at h
   ·rename_i h3
    rw[if_pos h3];split at h
    ·rename_i h4
     rw[if_pos h4];exact h4
    ·cases h
   ·cases h
  ·cases h
 ·cases h
theorem tZp :bZv prog 93=some (8,56,some #[.int .u64 0,.int .i64 0,.int .i64 0,.int .i64 0,.int .i64 0,.int .u32 0,.int .u32 0,.int .u32 0]):=by kernel_rfl
theorem qZE {L:List As}{H:Hp}(h:Hw.Sep L H):Hw.Sep (L++[Own 93 8 none 0 0 []]) H:=by
 have:Hw.Sep (Own 93 8 none 0 0 []::L) H:=⟨fun _=>none,H,fun _ _ h=>(nomatch h),Hp.le_refl _,fun _=>.inl rfl,Own.none _ _ _,h⟩;exact Hw.Sep.perm (List.perm_append_comm (l₁:=[_])) this
theorem iZ8 (b p f n:Nat)(w:Int)(hn:1≤n)(hfn:f+n≤1048576)(r:Int×D×List R)(hr12:r.1=0→r.2.2.length≤12):
  ∀(t i:Nat) (d:D) (acc:List R) (A:Option Addr) (m:Nat) (H:Hp),i+t=n→Ok d→d.rd+t≤1000000→acc.length≤i→acc.length≤m→r=cZ2 f n t i d acc→
   Hw.Sep [Dk p d,pts b (aZi p f n w),Own 93 8 A acc.length m (cZr acc)] H→
   ZU.l2 (fun v H'=>∃ M,lZa b p f n w r v M∧Hw.Sep M H') (t+1) (some ⟨b,0,none⟩) A acc.length m (n:Int) (i:Int) H
 |0,i,d,acc,A,m,H,hi,hok,hrd,hacc,hm,hr,hs=>by
  unfold ZU.l2;refine Zm (by omega) ?_;have hr:r=(0,d,acc):=hr;have h12:=hr12 (by rw[hr]);rw[hr]at h12;refine(oZ4 A acc.length m h12 acc rfl).use hs [2] rfl rfl ?_;rintro _ _ H1 ⟨rfl,rfl⟩ hs;rw[hr];exact⟨_,⟨A,m,rfl,rfl,hm⟩,hs.re [1,2,0] rfl⟩
 |t+1,i,d,acc,A,m,H,hi,hok,hrd,hacc,hm,hr,hs=>by
  unfold ZU.l2;refine Zw (by omega) ?_;have hj5:∀(H:Hp) (v:Value) (M:List As),uZz p d ((f+i:Nat):Int) v M→Hw.Sep (M++[pts b (aZi p f n w),Own 93 8 A acc.length m (cZr acc)]) H→
    bZG v fun l1=>Zv l1 fun v5 l2=>DSl v5 fun A2 n2 m2=>Zv l2 fun v6 l3=>DI .i64 v6 fun x5=>aZd l3 (ZU.j5 (fun v H'=>∃ M,lZa b p f n w r v M∧Hw.Sep M H') (ZU.l2 (fun v H'=>∃ M,lZa b p f n w r v M∧Hw.Sep M H') (t+1)) (some ⟨b,0,none⟩) A acc.length m (i:Int) A2 n2 m2 x5 (n:Int) (i:Int) H):=by
   rintro H _ _ (⟨hc,rfl,rfl⟩|⟨hc,hb,rfl,rfl⟩|⟨hc,hb,b2,c,mm,rfl,hcc,rfl⟩) hs
   ·simp only[HV];unfold ZU.j5;refine ZK hc ?_;unfold cZ2 at hr;rw[if_pos hc]at hr;rw[hr];have hs:=qZE hs;exact⟨_,⟨none,0,rfl,rfl,Nat.le_refl _⟩,hs.re [0,1,3] rfl⟩
   ·simp only[HV];unfold ZU.j5;refine ZK (by decide) ?_;unfold cZ2 at hr;rw[if_neg (by omega),if_pos hb]at hr;rw[hr];have hs:=qZE hs;exact⟨_,⟨none,0,rfl,rfl,Nat.le_refl _⟩,hs.re [0,1,3] rfl⟩
   ·simp only[HV];unfold ZU.j5;refine ZB rfl ?_;have hs:Hw.Sep [Dk p (D.red d),pts b2 (.row (Zx (d.now ((f+i:Nat):Int))) 5 mm),pts b (aZi p f n w),Own 93 8 A acc.length m (cZr acc)] H:=hs;unfold cZ2 at hr;rw[if_neg (by omega),if_neg (by simp[hb])]at hr;have hnow:=hok.now ((f+i:Nat):Int);have hsz:=hok.size;generalize d.now ((f+i:Nat):Int)=bs at*;have hcell:Cells H (some ⟨b2,0,none⟩) (Zx bs):=by
     have:=Cells.row (hs.get 1 (b:=b2) (o:=.row (Zx bs) 5 mm) rfl) 0 d.size;rw[List.drop_zero,List.take_of_length_le (by rw[ZT];omega)]at this;exact this
    refine Zc.use (iZo (some ⟨b2,0,none⟩) d.size c bs hnow.symm hcc (by omega) (fun _=>hsz.1) H hcell) ?_;simp only[HV];have hg:=qZY (bs:=bs);have hst:fZd f n bs i=if(bZc bs).2=0∧aZ2 f n (bZc bs).1.s=f+i then [(bZc bs).1]else []:=rfl
    generalize bZc bs=tv at*;obtain⟨q,e⟩:=tv;simp only at hg hst;refine hs.nw fun b3 H hs=>?_
    refine hs.stw 4 (y:=q.c) rfl rfl rfl (fZb q) fun H hs=>?_;have hs:Hw.Sep [Dk p (D.red d),pts b2 (.row (Zx bs) 5 mm),pts b (aZi p f n w),Own 93 8 A acc.length m (cZr acc),pts b3 (.obj (.cells q.c 93))] H:=hs;have hred:(D.red d).rd=d.rd+1:=rfl;have next:∀ H,fZd f n bs i=[]→Hw.Sep [Dk p (D.red d),pts b (aZi p f n w),Own 93 8 A acc.length m (cZr acc)] H→
      ZU.l2 (fun v H'=>∃ M,lZa b p f n w r v M∧Hw.Sep M H') (t+1) (some ⟨b,0,none⟩) A acc.length m (n:Int) (IntKind.i64.wrap ((i:Int)+1)) H:=fun H h0 hs=>by
     rw[ZV (x:=(i:Int)+1) (by omega) (by omega)];rw[h0,List.append_nil]at hr;exact iZ8 b p f n w hn hfn r hr12 t (i+1) (D.red d) acc A m H (by omega) (Ok.red hok) (by rw[hred];omega) (by omega) hm hr hs
    by_cases he:e=0
    ·have hgood:=hg he;obtain⟨s1,s2,_⟩:=hgood;refine aZb he ?_;refine hs.ldf 4 rfl rfl ?_;simp only[HV];refine aZc.use (pZW hs 2 rfl (by omega) hn (by omega) q.s s1 (by omega)) ?_;simp only[HV]
     try simp only[HS]
     refine hs.ld 2 rfl rfl ?_;simp only[HV];rw[ZV (x:=(f:Int)+(i:Int)) (by omega) (by omega)];by_cases hsl:aZ2 f n q.s=f+i
     ·refine aZb (by omega) ?_;rw[if_pos ⟨he,hsl⟩]at hst;refine hs.ldw 4 rfl rfl ?_;unfold R.c;simp only[HV];refine rZn (x:=fun b=>.slice (some ⟨b,0,none⟩) 1 1) ?_;refine hs.appS 3 rfl tZp rfl (by omega) (by omega) rfl rfl (by omega) (by omega) fun A' m' H hs hcap=>?_
      have hm':=hcap _ _ _ rfl;simp only[HV];rw[ZV (x:=(i:Int)+1) (by omega) (by omega)];rw[hst]at hr;have hlen:(acc++[q]).length=acc.length+1:=by simp
      have ih:=iZ8 b p f n w hn hfn r hr12 t (i+1) (D.red d) (acc++[q]) A' m' H (by omega) (Ok.red hok) (by rw[hred];omega) (by omega) (by rw[hlen];exact hm') hr;rw[hlen]at ih;refine ih ?_;have e1:cZr (acc++[q])=cZr acc++q.c.toList:=by simp[cZr]
      rw[e1];exact hs.re [0,2,3] rfl
     ·refine aZm (by omega) ?_;rw[if_neg (fun h=>hsl h.2)]at hst;exact next H hst (hs.re [0,2,3] rfl)
    ·refine aZm he ?_;rw[if_neg (fun h=>he h.1)]at hst;exact next H hst (hs.re [0,2,3] rfl)
  try simp only[HS]
  have hw:IntKind.i64.wrap ((f:Int)+(i:Int))=((f+i:Nat):Int):=by rw[ZV (by omega) (by omega)];omega
  have hR:=jZP (p:=p) (d:=d) hok (by omega) ((f+i:Nat):Int);refine⟨?_,?_⟩
  ·refine hs.ld 1 rfl rfl ?_;simp only[HV]
   try simp only[HS]
   refine hs.ld 1 rfl rfl ?_;simp only[HV];rw[hw];refine hR.use hs [0] rfl rfl ?_;intro v M H1 hq hs;exact hj5 H1 v M hq hs
  ·refine hs.ld 1 rfl rfl ?_;simp only[HV]
   try simp only[HS]
   refine hs.ld 1 rfl rfl ?_;simp only[HV];rw[hw];refine hR.use hs [0] rfl rfl ?_;intro v M H1 hq hs;exact hj5 H1 v M hq hs
theorem sZF (f n:Nat)(bs:List UInt8)(i:Nat):(fZd f n bs i).length≤1:=by unfold fZd;split<;>simp
theorem jZy (f n:Nat):∀(k i:Nat) (d:D) (acc:List R),(cZ2 f n k i d acc).2.2.length≤acc.length+k
 |0,_,_,_=>Nat.le_refl _
 |k+1,i,d,acc=>by
  unfold cZ2;split
  ·exact Nat.zero_le _
  ·split
   ·exact Nat.zero_le _
   ·have h1:=jZy f n k (i+1) (D.red d) (acc++fZd f n (d.now ((f+i:Nat):Int)) i);have h2:=sZF f n (d.now ((f+i:Nat):Int)) i;rw[List.length_append]at h1;omega
theorem mZ6 (f n:Nat):∀(k i:Nat) (d:D) (acc:List R),(cZ2 f n k i d acc).1≠0→(cZ2 f n k i d acc).2.2=[]
 |0,_,_,_,h=>absurd rfl h
 |k+1,i,d,acc,h=>by
  unfold cZ2 at h⊢;by_cases h1:d.chk ((f+i:Nat):Int)≠0
  ·rw[if_pos h1]
  ·rw[if_neg h1]at h⊢;by_cases h2:d.burns=true
   ·rw[if_pos h2]
   ·rw[if_neg h2]at h⊢;exact mZ6 f n k (i+1) _ _ h
def aZ4 (f n:Nat)(d:D):Int×D×List R:=cZ2 f n n 0 d []
theorem uZQ {b p f n:Nat}{w:Int}{d:D}(hn:1≤n)(hfn:f+n≤1048576)(hok:Ok d)(hrd:d.rd+n≤1000000)(h12:(aZ4 f n d).1=0→(aZ4 f n d).2.2.length≤12):
  Tr prog 76 #[.pointer (some ⟨b,0,none⟩)] [Dk p d,pts b (aZi p f n w)] (lZa b p f n w (aZ4 f n d)):=fun H hs=>by
 apply ZU.ok;unfold ZU
 try simp only[HS]
 refine hs.ld 1 rfl rfl ?_;simp only[HV];exact⟨n+1,iZ8 b p f n w hn hfn _ h12 n 0 d [] none 0 H (by omega) hok hrd (Nat.le_refl _) (Nat.le_refl _) rfl (qZE hs)⟩
def eZu (r:Int×D×List R):Option R:=(bZ8 r.2.2 (r.2.2.length-1)).getLast?
def uZo (b p f n:Nat)(w:Int)(r:Int×D×List R)(v:Value)(M:List As):Prop:=
 v= .tuple #[.agg ((eZu r).getD bZq).c,.bool (eZu r).isSome,.int .i64 r.1]∧M=[Dk p r.2.1,pts b (aZi p f n w)]
theorem pZh {b p f n:Nat}{w:Int}{d:D}(hn:1≤n)(hfn:f+n≤1048576)(hok:Ok d)(hrd:d.rd+n≤1000000)(h12:(aZ4 f n d).1=0→(aZ4 f n d).2.2.length≤12):
  Tr prog 41 #[.pointer (some ⟨b,0,none⟩)] [Dk p d,pts b (aZi p f n w)] (uZo b p f n w (aZ4 f n d)):=fun H hs=>by
 apply bZU.ok;unfold bZU bZU.q1;refine hs.nw fun b1 H hs=>?_
 have herr:=mZ6 f n n 0 d [];have hlen:=eZS ((aZ4 f n d).2.2.length-1) (aZ4 f n d).2.2;refine(uZQ (b:=b) (p:=p) (w:=w) hn hfn hok hrd h12).use hs [0,1] rfl rfl ?_;rintro _ _ H1 ⟨A,m,rfl,rfl,_⟩ hs;change (aZ4 f n d).1≠0→(aZ4 f n d).2.2=[]at herr;unfold uZo eZu;generalize aZ4 f n d=r at*;obtain⟨e,d',l⟩:=r;simp only at hlen herr h12 hs⊢;simp only[HV];have hs:Hw.Sep [Dk p d',pts b (aZi p f n w),Own 93 8 A l.length m (cZr (bZ8 l (l.length-1))),pts b1 (.obj (.cells #[.int .u64 0,.int .i64 0,.int .i64 0,.int .i64 0,.int .i64 0,.int .u32 0,.int .u32 0,.int .u32 0] 93))] H1:=hs;have zero:l=[]→∀ H,Hw.Sep [Dk p d',pts b (aZi p f n w),Own 93 8 A l.length m (cZr (bZ8 l (l.length-1))),pts b1 (.obj (.cells #[.int .u64 0,.int .i64 0,.int .i64 0,.int .i64 0,.int .i64 0,.int .u32 0,.int .u32 0,.int .u32 0] 93))] H→
   StA H ⟨b1,0,none⟩ #[.int .u64 0,.int .i64 0,.int .i64 0,.int .i64 0,.int .i64 0,.int .u32 0,.int .u32 0,.int .u32 0] 8 fun H3=>LdA H3 ⟨b1,0,none⟩ 8 fun l5=>∃ M,((Value.tuple #[.agg l5.toArray,.bool false,.int .i64 e])= .tuple #[.agg (((bZ8 l (l.length-1)).getLast?).getD bZq).c,.bool ((bZ8 l (l.length-1)).getLast?).isSome,.int .i64 e]∧M=[Dk p d',pts b (aZi p f n w)])∧Hw.Sep M H3:=fun h0 H hs=>by
  subst h0;refine hs.stw 3 rfl rfl rfl rfl fun H hs=>hs.ldw 3 rfl rfl ?_
  exact⟨_,⟨rfl,rfl⟩,hs.re [0,1] rfl⟩
 by_cases he:e≠0
 ·refine ZK he ?_;exact zero (herr he) _ hs
 ·have he0:e=0:=by omega
  refine ZB he0 ?_;by_cases hl:l=[]
  ·refine aZb (by rw[hl];rfl) ?_;exact zero hl _ hs
  ·have hp:0<l.length:=List.length_pos_iff.2 hl;refine aZm (by omega) ?_;have ei:IntKind.i64.wrap ((l.length:Int)-1)=((l.length-1:Nat):Int):=by
    have h12':=h12 he0;rw[ZV (by omega) (by omega)];omega
   rw[ei];have hlt:l.length-1<(bZ8 l (l.length-1)).length:=by omega
   refine(hs.own 2 rfl).rdA rfl (by omega) (hZM _ (l.length-1) hlt) ?_;rw[Array.toArray_toList];refine hs.stw 3 rfl rfl rfl (fZb _) fun H hs=>hs.ldw 3 rfl rfl ?_
   rw[Array.toArray_toList];have hgl:(bZ8 l (l.length-1)).getLast? =some (bZ8 l (l.length-1))[l.length-1]:=by
    rw[List.getLast?_eq_getElem?,hlen,List.getElem?_eq_getElem hlt]
   rw[hgl,he0];exact⟨_,⟨rfl,rfl⟩,hs.re [0,1] rfl⟩
end Rng
namespace Rec
open Go Go.Hw Go.Form Go.Crc W FormP
theorem nZU (r:R)(x:Int)(h:¬(r.good∧secB x=true))(H:Hp):Zc prog 133 #[.agg r.c,.int .i64 x] H (RetE (.tuple #[.slice none 0 0,.int .i64 1]) H):=Zc.ret (by
 apply eZb.ok;unfold eZb;refine(Sep.start H).nw fun b1 H1 hs=>?_
 have hs:Sep [own H,pts b1 (bZJ r)] H1:=hs;refine hs.ldw 1 rfl rfl ?_;refine Zc.use (bZZ r H1) ?_;simp only[HV];by_cases hg:r.good
 ·rw[decide_eq_true hg];refine aZu rfl ?_;refine Zc.use (iZa x H1) ?_;rw[show secB x=false by simpa using fun g=>h ⟨hg,g⟩];simp only[HV];exact hs.fin 0 rfl _
 ·rw[decide_eq_false hg];exact aZN rfl (hs.fin 0 rfl _))
theorem jZZ (r:R){size:Nat}(h32:32≤size):setAt (aZK [Value.int .u8 0] size) 0 (Zx (Form.form r.w4))=Zx (r.form size):=by
 rw[bZD];unfold setAt R.form;rw[List.take_zero,List.nil_append,Nat.zero_add,ZT,jZT,List.drop_replicate];unfold Zx;rw[List.map_append,List.map_replicate];rfl
end Rec
namespace Rng
open Go Go.Hw W Rec Srt Dsk
theorem oZJ (f n:Nat):∀(k i:Nat) (d:D) (acc:List R),Ok d→Ok (cZ2 f n k i d acc).2.1∧(cZ2 f n k i d acc).2.1.wr=d.wr∧(cZ2 f n k i d acc).2.1.sy=d.sy∧(cZ2 f n k i d acc).2.1.size=d.size∧(cZ2 f n k i d acc).2.1.sec=d.sec
 |0,_,d,_,h=>⟨h,rfl,rfl,rfl,rfl⟩
 |k+1,i,d,acc,h=>by
  have hb:=cZd d;unfold cZ2;split
  ·exact⟨h,rfl,rfl,rfl,rfl⟩
  ·split
   ·exact⟨h.burnt,hb.2.1,hb.2.2.1,hb.2.2.2.1,hb.2.2.2.2.1⟩
   ·obtain⟨h1,h2,h3,h4,h5⟩:=oZJ f n k (i+1) (D.red d) (acc++fZd f n (d.now ((f+i:Nat):Int)) i) (Ok.red h);exact⟨h1,h2.trans hb.2.1,h3.trans hb.2.2.1,h4.trans hb.2.2.2.1,h5.trans hb.2.2.2.2.1⟩
def mZf (f n:Nat)(d:D)(r:R):Int×D:=
 if d.writeE (aZ2 f n r.s) d.size≠0 then(d.writeE (aZ2 f n r.s) d.size,d.writeD (aZ2 f n r.s) (r.form d.size))
 else((d.writeD (aZ2 f n r.s) (r.form d.size)).syncE,(d.writeD (aZ2 f n r.s) (r.form d.size)).syncD)
def cZQ (q:Option R)(r:R):Bool:=match q with|some q=>decide (after q r)|none=>decide (r.s=1∧r.kd=1)
def fZg (f n:Nat)(d:D)(r:R):Int×D:=
 if ¬r.good then(10,d)else if(aZ4 f n d).1≠0 then((aZ4 f n d).1,(aZ4 f n d).2.1)
 else if cZQ (eZu (aZ4 f n d)) r=false then(5,(aZ4 f n d).2.1)else mZf f n (aZ4 f n d).2.1 r
def iZG (b p f n:Nat)(w:Int)(r:Int×D)(v:Value)(M:List As):Prop:=v= .int .i64 r.1∧M=[Dk p r.2,pts b (aZi p f n w)]
theorem wZV {b p f n:Nat}{w:Int}(hn:1≤n)(hfn:f+n≤1048576){d:D}(hok:Ok d)(hw:d.wr≤1000000∧d.sy≤1000000)(r:R)(hg:r.good)(b1 b2 mm:Nat)(H:Hp)
  (hs:Hw.Sep [Dk p d,pts b (aZi p f n w),pts b1 (bZJ r),pts b2 (.row (Zx (r.form d.size)) 5 mm)] H):
  ZQ.j9 (fun v H'=>∃ M,iZG b p f n w (mZf f n d r) v M∧Hw.Sep M H') (some ⟨b,0,none⟩) ⟨b1,0,none⟩ (some ⟨b2,0,none⟩) d.size d.size H:=by
 unfold ZQ.j9;obtain⟨s1,s2,_⟩:=hg;have hsz:=hok.size
 try simp only[HS]
 refine hs.ld 1 rfl rfl ?_;simp only[HV];refine hs.ld 2 rfl rfl ?_;simp only[HV];refine aZc.use (pZW hs 1 rfl (by omega) hn (by omega) r.s s1 (by omega)) ?_;simp only[HV];have hl:=jZv r hsz.1;refine(eZn (p:=p) (d:=d) hok (by omega) (aZ2 f n r.s:Int) (some ⟨b2,0,none⟩) d.size d.size (r.form d.size) hl.symm (pts b2 (.row (Zx (r.form d.size)) 5 mm)) (fun H h=>?_)).use hs [0,3] rfl rfl ?_
 ·have:=Cells.row h 0 d.size;rw[List.drop_zero,List.take_of_length_le (by rw[ZT];omega)]at this;exact this
 rintro _ _ H1 ⟨rfl,rfl⟩ hs;have hs:Hw.Sep [Dk p (d.writeD (aZ2 f n r.s) (r.form d.size)),pts b2 (.row (Zx (r.form d.size)) 5 mm),pts b (aZi p f n w),pts b1 (bZJ r)] H1:=hs;unfold iZG mZf;by_cases he:d.writeE (aZ2 f n r.s) d.size≠0
 ·rw[if_pos he];simp only[HV];refine ZK he ?_;exact⟨_,⟨by first|trivial|rfl,rfl⟩,hs.re [0,2] rfl⟩
 ·rw[if_neg he];simp only[HV];refine ZB (by omega) ?_
  try simp only[HS]
  refine hs.ld 2 rfl rfl ?_;simp only[HV];have hsy:(d.writeD (aZ2 f n r.s) (r.form d.size)).sy=d.sy:=by
   have hbr:=cZd d;unfold D.writeD;split
   ·rfl
   ·split
    ·rfl
    ·split
     ·exact hbr.2.2.1
     ·exact hbr.2.2.1
  refine(hZz (p:=p) (d:=d.writeD (aZ2 f n r.s) (r.form d.size)) (Ok.writeD hok _ _) (by rw[hsy];omega)).use hs [0] rfl rfl ?_;rintro _ _ H2 ⟨rfl,rfl⟩ hs;simp only[HV];exact⟨_,⟨by first|trivial|rfl,rfl⟩,hs.re [0,2] rfl⟩
theorem wZT {K:Value→Hp→Prop}{p4:Option Addr}{a4:Addr}{A:Option Addr}{n m:Nat}{x:Int}{H:Hp}(hx:x≠0)(k:K (.int .i64 10) H):ZQ.j2 K p4 a4 A n m x H:=by
 unfold ZQ.j2;exact ZK hx k
theorem wZU {b p f n:Nat}{w:Int}(hn:1≤n)(hfn:f+n≤1048576){d:D}(hok:Ok d)(hw:d.wr≤1000000∧d.sy≤1000000)(hrd:d.rd+n≤1000000)(h12:(aZ4 f n d).1=0→(aZ4 f n d).2.2.length≤12)(r:R)(hg:r.good)(b1 b2 mm:Nat)(H:Hp)
  (hs:Hw.Sep [Dk p d,pts b (aZi p f n w),pts b1 (bZJ r),pts b2 (.row (Zx (r.form d.size)) 5 mm)] H):
  ZQ.j2 (fun v H'=>∃ M,iZG b p f n w (fZg f n d r) v M∧Hw.Sep M H') (some ⟨b,0,none⟩) ⟨b1,0,none⟩ (some ⟨b2,0,none⟩) d.size d.size 0 H:=by
 unfold ZQ.j2;refine ZB rfl ?_;refine(pZh (b:=b) (p:=p) (w:=w) hn hfn hok hrd h12).use hs [0,1] rfl rfl ?_;rintro _ _ H1 ⟨rfl,rfl⟩ hs;obtain⟨hok',hwr',hsy',hsz',_⟩:=oZJ f n n 0 d [] hok;have hok':Ok (aZ4 f n d).2.1:=hok';have hwr':(aZ4 f n d).2.1.wr=d.wr:=hwr';have hsy':(aZ4 f n d).2.1.sy=d.sy:=hsy';have hsz':(aZ4 f n d).2.1.size=d.size:=hsz';have hj9:=fun(b1 b2 mm:Nat) (H:Hp) hs=>wZV (b:=b) (p:=p) (w:=w) hn hfn hok' (by rw[hwr',hsy'];exact hw) r hg b1 b2 mm H hs
 have hap:fZg f n d r=if(aZ4 f n d).1≠0 then((aZ4 f n d).1,(aZ4 f n d).2.1)else if cZQ (eZu (aZ4 f n d)) r=false then(5,(aZ4 f n d).2.1)else mZf f n (aZ4 f n d).2.1 r:=by
  unfold fZg;rw[if_neg (fun h=>h hg)]
 rw[hap];rw[hsz']at hj9;generalize eZu (aZ4 f n d)=lq at*;generalize aZ4 f n d=sc at*;obtain⟨e,d',l⟩:=sc;simp only at hj9 hs hok' hwr' hsy' hsz' h12⊢;simp only[HV];refine hs.nw fun b3 H hs=>?_
 refine hs.stw 4 (y:=(lq.getD bZq).c) rfl rfl rfl (fZb _) fun H hs=>?_;have hs:Hw.Sep [Dk p d',pts b (aZi p f n w),pts b1 (bZJ r),pts b2 (.row (Zx (r.form d.size)) 5 mm),pts b3 (.obj (.cells (lq.getD bZq).c 93))] H:=hs;by_cases he:e≠0
 ·refine ZK he ?_;rw[if_pos he];exact⟨_,⟨rfl,rfl⟩,hs.re [0,1] rfl⟩
 refine ZB (by omega) ?_;rw[if_neg he];cases lq with
 |some q=>
  refine aZN rfl ?_;refine hs.ldw 4 rfl rfl ?_;refine hs.ldw 2 rfl rfl ?_;rw[Array.toArray_toList,Array.toArray_toList];refine Zc.use (sZV q r H) ?_;simp only[HV];by_cases ha:after q r
  ·rw[decide_eq_true ha];refine aZu rfl (aZu rfl ?_);rw[if_neg (show ¬cZQ (some q) r=false by show ¬(decide (after q r)=false);rw[decide_eq_true ha];decide)];exact hj9 b1 b2 mm H (hs.re [0,1,2,3] rfl)
  ·rw[decide_eq_false ha];refine aZN rfl ?_;rw[if_pos (show cZQ (some q) r=false from decide_eq_false ha)];exact⟨_,⟨rfl,rfl⟩,hs.re [0,1] rfl⟩
 |none=>
  refine aZu rfl (aZN rfl ?_);refine hs.ldf 2 rfl rfl ?_;simp only[HV];by_cases h1:r.s=1
  ·refine ZB (by omega) ?_;refine hs.ldf 2 rfl rfl ?_;simp only[HV];by_cases h2:r.kd=1
   ·refine ZB h2 ?_;rw[if_neg (show ¬cZQ none r=false by show ¬(decide (r.s=1∧r.kd=1)=false);rw[decide_eq_true ⟨h1,h2⟩];decide)];exact hj9 b1 b2 mm H (hs.re [0,1,2,3] rfl)
   ·refine ZK h2 ?_;rw[if_pos (show cZQ none r=false from decide_eq_false fun h=>h2 h.2)];exact⟨_,⟨rfl,rfl⟩,hs.re [0,1] rfl⟩
  ·refine ZK (by omega) ?_;rw[if_pos (show cZQ none r=false from decide_eq_false fun h=>h1 h.1)];exact⟨_,⟨rfl,rfl⟩,hs.re [0,1] rfl⟩
theorem rZa {b p f n:Nat}{w:Int}(hn:1≤n)(hfn:f+n≤1048576){d:D}(hok:Ok d)(hw:d.wr≤1000000∧d.sy≤1000000)(hrd:d.rd+n≤1000000)(h12:(aZ4 f n d).1=0→(aZ4 f n d).2.2.length≤12)(hsec:secB (d.size:Int)=true)(r:R)(hu:r.u32):
  Tr prog 84 #[.pointer (some ⟨b,0,none⟩),.agg r.c] [Dk p d,pts b (aZi p f n w)] (iZG b p f n w (fZg f n d r)):=fun H hs=>by
 apply ZQ.ok;unfold ZQ ZQ.q1;have hsz:=hok.size;refine hs.nw fun b1 H hs=>?_
 have hs:Hw.Sep [Dk p d,pts b (aZi p f n w),pts b1 (bZJ r)] H:=hs;have put:Zc prog 133 #[.agg r.c,.int .i64 (d.size:Int)] H fun v3 H3=>bZG v3 fun l2=>Zv l2 fun v4 l3=>DSl v4 fun A1 n1 m1=>Zv l3 fun v5 l4=>DI .i64 v5 fun x2=>aZd l4 (ZQ.j2 (fun v H'=>∃ M,iZG b p f n w (fZg f n d r) v M∧Hw.Sep M H') (some ⟨b,0,none⟩) ⟨b1,0,none⟩ A1 n1 m1 x2 H3):=by
  by_cases hg:r.good
  ·have hneed:(Lay.gZF 0 (d.size:Int)).2=0:=of_decide_eq_true hsec;refine(vZ4 r hg hu d.size hsz.1 hsz.2 hneed).use hs [] rfl rfl ?_;rintro _ _ H1 ⟨b2,rfl,rfl⟩ hs;rw[jZZ r hsz.1]at hs;simp only[HV];have hs:Hw.Sep [pts b2 (.row (Zx (r.form d.size)) 5 (d.size*1)),Dk p d,pts b (aZi p f n w),pts b1 (bZJ r)] H1:=hs;exact wZU hn hfn hok hw hrd h12 r hg b1 b2 _ H1 (hs.re [1,2,3,0] rfl)
  ·refine Zc.use (nZU r (d.size:Int) (fun h=>hg h.1) H) ?_;simp only[HV];refine wZT (by decide) ?_;have:fZg f n d r=(10,d):=by unfold fZg;rw[if_pos hg]
   rw[this];exact⟨_,⟨rfl,rfl⟩,hs.re [0,1] rfl⟩
 have lda:∀{K:List Value→Prop},K r.c.toList→LdA H (⟨b1,0,none⟩:Addr) 8 K:=fun k=>hs.ldw 2 rfl rfl k
 have ldd:∀{K:Value→Prop},K (.pointer (some ⟨p,0,none⟩))→Ld H ((⟨b,0,none⟩:Addr).add 3) K:=fun k=>hs.ldf 1 rfl rfl k
 have hS:=hZC hs 0 rfl;rw[aZ5];refine⟨lda (ldd ?_),ldd ?_⟩
 ·simp only[HV];refine Zc.use hS ?_;simp only[HV];exact put
 ·simp only[HV];refine⟨lda ?_,?_⟩
  ·refine Zc.use hS ?_;simp only[HV];exact put
  ·refine Zc.use hS ?_;simp only[HV];refine lda ?_;rw[Array.toArray_toList];exact put
def iZM (f:Nat):Nat→Nat→D→Int×D
 |0,_,d=>(d.syncE,d.syncD)
 |k+1,i,d=>if d.writeE ((f+i:Nat):Int) d.size≠0 then(d.writeE ((f+i:Nat):Int) d.size,d.writeD ((f+i:Nat):Int) (List.replicate d.size 0))else iZM f k (i+1) (d.writeD ((f+i:Nat):Int) (List.replicate d.size 0))
theorem nZj (d:D)(i:Int)(bs:List UInt8):(d.writeD i bs).sy=d.sy∧(d.writeD i bs).wr≤d.wr+1∧(d.writeD i bs).size=d.size:=by
 have hbr:=cZd d;unfold D.writeD;split
 ·exact⟨rfl,by omega,rfl⟩
 ·split
  ·exact⟨rfl,by omega,rfl⟩
  ·split
   ·exact⟨hbr.2.2.1,by omega,hbr.2.2.2.1⟩
   ·exact⟨hbr.2.2.1,Nat.le_refl _,hbr.2.2.2.1⟩
theorem fZf (n:Nat):aZK [Value.int .u8 0] n=Zx (List.replicate n 0):=by
 rw[bZD];simp[Zx]
theorem kZ0 {b p f n:Nat}{w:Int}(hfn:f+n≤1048576)(r:Int×D):∀(t i:Nat) (d:D) (H:Hp),i+t=n→Ok d→d.wr+t≤1000000→d.sy≤1000000→r=iZM f t i d→Hw.Sep [Dk p d,pts b (aZi p f n w)] H→
  ZW.l2 (fun v H'=>∃ M,iZG b p f n w r v M∧Hw.Sep M H') (t+1) (some ⟨b,0,none⟩) (n:Int) (i:Int) H
 |0,i,d,H,hi,hok,hwr,hsy,hr,hs=>by
  unfold ZW.l2 ZW.l2.q1;refine Zm (by omega) ?_
  try simp only[HS]
  refine hs.ld 1 rfl rfl ?_;simp only[HV]
  try simp only[HS]
  refine(hZz (p:=p) (d:=d) hok (by omega)).use hs [0] rfl rfl ?_;rintro _ _ H1 ⟨rfl,rfl⟩ hs;have hr:r=(d.syncE,d.syncD):=hr;rw[hr];simp only[HV];exact⟨_,⟨rfl,rfl⟩,hs⟩
 |t+1,i,d,H,hi,hok,hwr,hsy,hr,hs=>by
  unfold ZW.l2 ZW.l2.q1;refine Zw (by omega) ?_;have hsz:=hok.size;have hw:=nZj d ((f+i:Nat):Int) (List.replicate d.size 0);have hadd:IntKind.i64.wrap ((f:Int)+(i:Int))=((f+i:Nat):Int):=by rw[ZV (by omega) (by omega)];omega
  have rest:∀ H1,Hw.Sep [Dk p (d.writeD ((f+i:Nat):Int) (List.replicate d.size 0)),pts b (aZi p f n w)] H1→
    BIf (d.writeE ((f+i:Nat):Int) d.size !=0) (∃ M,iZG b p f n w r (.int .i64 (d.writeE ((f+i:Nat):Int) d.size)) M∧Hw.Sep M H1) (ZW.l2 (fun v H'=>∃ M,iZG b p f n w r v M∧Hw.Sep M H') (t+1) (some ⟨b,0,none⟩) (n:Int) (IntKind.i64.wrap ((i:Int)+1)) H1):=fun H1 hs=>by
   unfold iZM at hr;by_cases he:d.writeE ((f+i:Nat):Int) d.size≠0
   ·rw[if_pos he]at hr;refine ZK he ?_;rw[hr];exact⟨_,⟨rfl,rfl⟩,hs⟩
   ·rw[if_neg he]at hr;refine ZB (by omega) ?_;rw[ZV (x:=(i:Int)+1) (by omega) (by omega)];exact kZ0 hfn r t (i+1) _ H1 (by omega) (Ok.writeD hok _ _) (by omega) (by omega) hr hs
  try simp only[HS]
  refine hs.ld 1 rfl rfl ?_;simp only[HV]
  try simp only[HS]
  refine aZc.use (hZC hs 0 rfl) ?_;simp only[HV]
  try simp only[HS]
  refine⟨?_,?_,?_⟩
  ·refine hs.ld 1 rfl rfl ?_;simp only[HV]
   try simp only[HS]
   refine⟨?_,?_⟩
   ·refine hs.ld 1 rfl rfl ?_;simp only[HV]
    try simp only[HS]
    rw[hadd];refine hs.mks eZE rfl (n:=d.size) (m:=d.size) rfl rfl (Nat.le_refl _) (by omega) (by omega) fun b2 H hs=>?_
    simp only[HV];rw[fZf]at hs;have hs:Hw.Sep [Dk p d,pts b (aZi p f n w),pts b2 (.row (Zx (List.replicate d.size 0)) 5 (d.size*1))] H:=hs;refine(eZn (p:=p) (d:=d) hok (by omega) ((f+i:Nat):Int) (some ⟨b2,0,none⟩) d.size d.size (List.replicate d.size 0) (by rw[List.length_replicate]) (pts b2 (.row (Zx (List.replicate d.size 0)) 5 (d.size*1))) (fun H h=>?_)).use hs [0,2] rfl rfl ?_
    ·have:=Cells.row h 0 d.size;rw[List.drop_zero,List.take_of_length_le (by rw[ZT,List.length_replicate];omega)]at this;exact this
    rintro _ _ H1 ⟨rfl,rfl⟩ hs;simp only[HV];exact rest _ (hs.re [0,2] rfl)
   ·refine hs.mks eZE rfl (n:=d.size) (m:=d.size) rfl rfl (Nat.le_refl _) (by omega) (by omega) fun b2 H hs=>?_
    simp only[HV];rw[fZf]at hs;have hs:Hw.Sep [Dk p d,pts b (aZi p f n w),pts b2 (.row (Zx (List.replicate d.size 0)) 5 (d.size*1))] H:=hs;refine hs.ld 1 rfl rfl ?_;simp only[HV]
    try simp only[HS]
    rw[hadd];refine(eZn (p:=p) (d:=d) hok (by omega) ((f+i:Nat):Int) (some ⟨b2,0,none⟩) d.size d.size (List.replicate d.size 0) (by rw[List.length_replicate]) (pts b2 (.row (Zx (List.replicate d.size 0)) 5 (d.size*1))) (fun H h=>?_)).use hs [0,2] rfl rfl ?_
    ·have:=Cells.row h 0 d.size;rw[List.drop_zero,List.take_of_length_le (by rw[ZT,List.length_replicate];omega)]at this;exact this
    rintro _ _ H1 ⟨rfl,rfl⟩ hs;simp only[HV];exact rest _ (hs.re [0,2] rfl)
  ·refine hs.ld 1 rfl rfl ?_;simp only[HV]
   try simp only[HS]
   rw[hadd];refine⟨?_,?_⟩
   ·refine hs.ld 1 rfl rfl ?_;simp only[HV]
    try simp only[HS]
    refine hs.mks eZE rfl (n:=d.size) (m:=d.size) rfl rfl (Nat.le_refl _) (by omega) (by omega) fun b2 H hs=>?_
    simp only[HV];rw[fZf]at hs;have hs:Hw.Sep [Dk p d,pts b (aZi p f n w),pts b2 (.row (Zx (List.replicate d.size 0)) 5 (d.size*1))] H:=hs;refine(eZn (p:=p) (d:=d) hok (by omega) ((f+i:Nat):Int) (some ⟨b2,0,none⟩) d.size d.size (List.replicate d.size 0) (by rw[List.length_replicate]) (pts b2 (.row (Zx (List.replicate d.size 0)) 5 (d.size*1))) (fun H h=>?_)).use hs [0,2] rfl rfl ?_
    ·have:=Cells.row h 0 d.size;rw[List.drop_zero,List.take_of_length_le (by rw[ZT,List.length_replicate];omega)]at this;exact this
    rintro _ _ H1 ⟨rfl,rfl⟩ hs;simp only[HV];exact rest _ (hs.re [0,2] rfl)
   ·refine hs.mks eZE rfl (n:=d.size) (m:=d.size) rfl rfl (Nat.le_refl _) (by omega) (by omega) fun b2 H hs=>?_
    simp only[HV];rw[fZf]at hs;have hs:Hw.Sep [Dk p d,pts b (aZi p f n w),pts b2 (.row (Zx (List.replicate d.size 0)) 5 (d.size*1))] H:=hs;refine hs.ld 1 rfl rfl ?_;simp only[HV]
    try simp only[HS]
    refine(eZn (p:=p) (d:=d) hok (by omega) ((f+i:Nat):Int) (some ⟨b2,0,none⟩) d.size d.size (List.replicate d.size 0) (by rw[List.length_replicate]) (pts b2 (.row (Zx (List.replicate d.size 0)) 5 (d.size*1))) (fun H h=>?_)).use hs [0,2] rfl rfl ?_
    ·have:=Cells.row h 0 d.size;rw[List.drop_zero,List.take_of_length_le (by rw[ZT,List.length_replicate];omega)]at this;exact this
    rintro _ _ H1 ⟨rfl,rfl⟩ hs;simp only[HV];exact rest _ (hs.re [0,2] rfl)
  ·refine hs.mks eZE rfl (n:=d.size) (m:=d.size) rfl rfl (Nat.le_refl _) (by omega) (by omega) fun b2 H hs=>?_
   simp only[HV];rw[fZf]at hs;have hs:Hw.Sep [Dk p d,pts b (aZi p f n w),pts b2 (.row (Zx (List.replicate d.size 0)) 5 (d.size*1))] H:=hs;refine hs.ld 1 rfl rfl ?_;simp only[HV]
   try simp only[HS]
   refine hs.ld 1 rfl rfl ?_;simp only[HV]
   try simp only[HS]
   rw[hadd];refine(eZn (p:=p) (d:=d) hok (by omega) ((f+i:Nat):Int) (some ⟨b2,0,none⟩) d.size d.size (List.replicate d.size 0) (by rw[List.length_replicate]) (pts b2 (.row (Zx (List.replicate d.size 0)) 5 (d.size*1))) (fun H h=>?_)).use hs [0,2] rfl rfl ?_
   ·have:=Cells.row h 0 d.size;rw[List.drop_zero,List.take_of_length_le (by rw[ZT,List.length_replicate];omega)]at this;exact this
   rintro _ _ H1 ⟨rfl,rfl⟩ hs;simp only[HV];exact rest _ (hs.re [0,2] rfl)
theorem sZ2 {b p f n:Nat}{w:Int}(hfn:f+n≤1048576){d:D}(hok:Ok d)(hwr:d.wr+n≤1000000)(hsy:d.sy≤1000000):
  Tr prog 56 #[.pointer (some ⟨b,0,none⟩)] [Dk p d,pts b (aZi p f n w)] (iZG b p f n w (iZM f n 0 d)):=fun H hs=>by
 apply ZW.ok;unfold ZW
 try simp only[HS]
 refine hs.ld 1 rfl rfl ?_;simp only[HV];exact⟨n+1,kZ0 hfn _ n 0 d H (by omega) hok hwr hsy rfl hs⟩
structure Act where
 k:Int
 i:Int
 r:R
 A:Option Addr
 n:Nat
 m:Nat
 ks:List Bool
 A':Option Addr
 n':Nat
 m':Nat
 b:List UInt8
structure OkA (H:Hp)(a:Act):Prop where
 n:a.n=a.ks.length
 ks:Cells H a.A (cZ4 a.ks)
 n':a.n'=a.b.length
 b:Cells H a.A' (Zx a.b)
 i: -9223372036854775808≤a.i∧a.i≤9223372036854775807
 wf:a.r.wf
theorem OkA.le {H H':Hp}{a:Act}(h:OkA H a)(k:H.le H'):OkA H' a:=⟨h.n,h.ks.le k,h.n',h.b.le k,h.i,h.wf⟩
def short (a:Act):Prop:=a.n≤20∧a.n'≤100
end Rng
namespace Rng
open Go Go.Hw Rec Srt Dsk
theorem jZl (r:Int×D×List R):eZu r=none↔r.2.2=[]:=by
 unfold eZu;rw[List.getLast?_eq_none_iff];constructor
 ·intro h;have:=eZS (r.2.2.length-1) r.2.2;rw[h]at this;exact List.length_eq_zero_iff.1 this.symm
 ·intro h;rw[h];rfl
theorem mZP {r:Int×D×List R}{q:R}(h:eZu r=some q):q∈r.2.2∧∀ x∈r.2.2,x.s≤q.s:=by
 unfold eZu at h;have hp:=rZV r.2.2;have hs:=oZf r.2.2;generalize bZ8 r.2.2 (r.2.2.length-1)=l at*;obtain⟨p,rfl⟩:=List.getLast?_eq_some_iff.1 h;refine⟨hp.mem_iff.1 (by simp),fun x hx=>?_⟩;have hx2:=hp.mem_iff.2 hx;rw[List.pairwise_append]at hs;rcases List.mem_append.1 hx2 with h1|h1
 ·exact hs.2.2 x h1 q (by simp)
 ·have:x=q:=by simpa using h1
  rw[this];exact Nat.le_refl _
theorem tZv {r:Int×D×List R}{q:R}(hq:q∈r.2.2)(hm:∀ x∈r.2.2,x.s≤q.s)(hd:∀ x∈r.2.2,x.s=q.s→x=q):eZu r=some q:=by
 cases h:eZu r with
 |none=>rw[(jZl r).1 h]at hq;simp at hq
 |some y=>
  obtain⟨h1,h2⟩:=mZP h;have:=h2 q hq;have:=hm y h1;rw[hd y h1 (by omega)]
end Rng
namespace Eng
open Go Go.Hw Go.Form Dsk Str Rec Srt Rng
def stC (c:Cn)(f n:Nat):Nat→Nat→List R
 |0,_=>[]
 |k+1,i=>fZd f n (c ((f+i:Nat):Int)) i++stC c f n k (i+1)
def bZE (c:Cn)(k:Nat)(b:List UInt8):Cn:=fun i=>if i=(k:Int)then b else c i
def lastC (c:Cn)(f n:Nat):Option R:=eZu (0,(D.fresh 1 32),stC c f n n 0)
theorem oZi {d:D}{e:Int}{c:Cn}{f n:Nat}:eZu (e,d,stC c f n n 0)=lastC c f n:=rfl
theorem hZA (c:Cn)(f n:Nat)(x:R):∀ k i,x∈stC c f n k i↔∃ j,i≤j∧j<i+k∧x∈fZd f n (c ((f+j:Nat):Int)) j
 |0,i=>by
  constructor
  ·intro h;cases h
  ·rintro⟨j,h1,h2,_⟩;omega
 |k+1,i=>by
  show x∈_++_↔_
  rw[List.mem_append,hZA c f n x k (i+1)];constructor
  ·rintro(h|⟨j,h1,h2,h3⟩)
   ·exact⟨i,Nat.le_refl _,by omega,h⟩
   ·exact⟨j,by omega,by omega,h3⟩
  ·rintro⟨j,h1,h2,h3⟩;by_cases e:j=i
   ·subst e;exact .inl h3
   ·exact .inr ⟨j,by omega,by omega,h3⟩
theorem jZF {f n:Nat}{bs:List UInt8}{i:Nat}{x:R}:x∈fZd f n bs i↔(bZc bs).2=0∧aZ2 f n x.s=f+i∧x=(bZc bs).1:=by
 unfold fZd;split
 ·rename_i h
  rw[List.mem_singleton];constructor
  ·rintro rfl;exact⟨h.1,h.2,rfl⟩
  ·rintro⟨_,_,h3⟩;exact h3
 ·rename_i h
  constructor
  ·intro h';cases h'
  ·rintro⟨h1,h2,rfl⟩;exact absurd ⟨h1,h2⟩ h
theorem lZM {d:D}{c:Cn}(h:Clean d c)(f n:Nat):∀(k i t:Nat) (acc:List R),f+i+k≤d.sec→d.fuse=0∨t<d.fuse→
  ((d.fuse=0∨t+k<d.fuse)∧cZ2 f n k i (D.rdG d t) acc=(0,D.rdG d (t+k),acc++stC c f n k i))∨(∃ j,j<t+k∧d.fuse=j+1∧cZ2 f n k i (D.rdG d t) acc=(8,D.dead (D.rdG d j),[]))
 |0,i,t,acc,hf,hl=>.inl ⟨hl,by show(0,D.rdG d t,acc)=_;rw[Nat.add_zero];show _=(0,D.rdG d t,acc++[]);rw[List.append_nil]⟩
 |k+1,i,t,acc,hf,hl=>by
  have hc:=h.rdG t;have hchk:(D.rdG d t).chk ((f+i:Nat):Int)=0:=gZw hc.down (Int.natCast_nonneg _) (by show _<(d.sec:Int);omega);unfold cZ2;rw[if_neg (by rw[hchk];simp)];have hfu:(D.rdG d t).fuse=d.fuse-t:=rfl;by_cases hb:d.fuse-t=1
  ·rw[if_pos (by unfold D.burns;simp[hfu,hb]),eZP (by rw[hfu];exact hb)];exact .inr ⟨t,by omega,by omega,rfl⟩
  ·rw[if_neg (by unfold D.burns;simp[hfu,hb])];have e:D.red (D.rdG d t)=D.rdG d (t+1):=by
    unfold D.red;rw[eZp hc.down (by rw[hfu];exact hb)];exact oZF d t
   rw[e,hc.now];rcases lZM h f n k (i+1) (t+1) (acc++fZd f n (c ((f+i:Nat):Int)) i) (by omega) (by omega)with⟨h1,h2⟩|⟨j,h1,h2,h3⟩
   ·refine .inl ⟨by omega,?_⟩;rw[h2,List.append_assoc,show t+1+k=t+(k+1) by omega];rfl
   ·exact .inr ⟨j,by omega,h2,h3⟩
theorem kZu {d:D}{c:Cn}(h:Clean d c)(f n:Nat)(hf:f+n≤d.sec):
  ((d.fuse=0∨n<d.fuse)∧aZ4 f n d=(0,D.rdG d n,stC c f n n 0))∨(∃ j,j<n∧d.fuse=j+1∧aZ4 f n d=(8,D.dead (D.rdG d j),[])):=by
 rcases lZM h f n n 0 0 [] (by omega) (by omega)with⟨h1,h2⟩|⟨j,h1,h2,h3⟩
 ·rw[Nat.zero_add]at h1 h2;exact .inl ⟨h1,h2⟩
 ·rw[Nat.zero_add]at h1;exact .inr ⟨j,h1,h2,h3⟩
theorem Prog.wrote {S:Int→Prop}{d:D}(h:Ok d)(hl:d.down=false)(hf:d.fuse≠1){i:Int}(hi:S i){bs:List UInt8}(hb:bs.length=d.size):Prog S d (d.wrote i bs) 0 1:=by
 have hbt:=eZp hl hf;have hbr:=cZd d;unfold D.wrote;refine⟨⟨h.burnt.sec,h.burnt.size,h.burnt.big,h.burnt.per,h.burnt.safe,fun k b hk=>?_,h.burnt.fz⟩,?_,?_,by omega,hbr.2.2.2.2.1,hbr.2.2.2.1,hbr.2.2.2.2.2.1,hbr.2.2.1,fun k hk=>?_,fun k hk=>?_,hbr.1,rfl⟩
 ·have hk':cZI d.cache i bs k=some b:=hk;show b.length=d.burnt.size
  rw[hbr.2.2.2.1];unfold cZI at hk';split at hk'
  ·cases hk';exact hb
  ·exact h.cache k b hk'
 ·show d.burnt.down=false;rw[hbt];exact hl
 ·show d.burnt.fuse=_;rw[hbt]
 ·have hne:k≠i:=fun e=>hk (e▸hi)
  show cZI d.cache i bs k=_
  unfold cZI;rw[if_neg hne]
 ·have hne:k≠i:=fun e=>hk (e▸hi)
  show hZU d.tch i k=_
  unfold hZU;rw[if_neg hne]
def gZ8 (d:D)(k:Nat)(b:List UInt8):Int×D:=
 if d.writeE k d.size≠0 then(d.writeE k d.size,d.writeD k b)else((d.writeD k b).syncE,(d.writeD k b).syncD)
theorem jZt {d:D}{c:Cn}(h:Clean d c)(k:Nat)(hk:k<d.sec)(b:List UInt8)(hb:b.length=d.size):
  ∃ d',(gZ8 d k b=(0,d')∧bZQ d d' 0 1 1∧Clean d' (bZE c k b))∨(gZ8 d k b=(8,d')∧Cut d d' 2∧Left d' fun c'=>c'=c∨c'=bZE c k b):=by
 have hchk:d.chk (k:Int)=0:=gZw h.down (Int.natCast_nonneg _) (by omega);unfold gZ8;by_cases hf:d.fuse=1
 ·have hbn:d.burns=true:=by unfold D.burns;simp[hf]
  have e1:d.writeE k d.size=8:=by unfold D.writeE;rw[if_neg (by rw[hchk];simp),if_neg (by simp),hbn];rfl
  have e2:d.writeD k b=D.dead d:=by unfold D.writeD;rw[if_neg (by rw[hchk];simp),if_neg (by simp[hb]),hbn,eZP hf];rfl
  rw[e1,e2,if_pos (by decide)];refine⟨_,.inr ⟨rfl,⟨Ok.dead h.ok,h.dom,rfl,rfl,rfl,rfl,?_,Nat.le_refl _,Nat.le_refl _,Nat.le_refl _,by omega,by omega⟩,fun c' hc=>.inl (funext fun i=>?_)⟩⟩
  ·show d.rd+d.wr+d.sy+1=_;omega
  ·rcases hc i with e|e
   ·exact e.trans (h.sat i)
   ·exact e.trans (h.now i)
 ·have hbn:d.burns=false:=by unfold D.burns;exact decide_eq_false hf
  have e1:d.writeE k d.size=0:=by unfold D.writeE;rw[if_neg (by rw[hchk];simp),if_neg (by simp),hbn];rfl
  have e2:d.writeD k b=d.wrote k b:=by unfold D.writeD;rw[if_neg (by rw[hchk];simp),if_neg (by simp[hb]),hbn];rfl
  rw[e1,e2,if_neg (by simp)];have p:=Prog.wrote (S:=fun i=>i=(k:Int)) h.ok h.down hf rfl hb;have hnow:(d.wrote k b).now=bZE c k b:=funext fun i=>by
   unfold bZE;by_cases hi:i=(k:Int)
   ·rw[if_pos hi];show((cZI d.cache k b i)).getD _=b
    unfold cZI;rw[if_pos hi];rfl
   ·rw[if_neg hi];exact(h.prog p i).2 hi
  rcases h.sync p (fun i hi=>⟨by omega,by omega⟩)with⟨s1,s2,s3⟩|⟨s1,s2,s3⟩
  ·rw[hnow]at s3;exact⟨_,.inl ⟨by rw[s1],s2,s3⟩⟩
  ·refine⟨_,.inr ⟨by rw[s1],s2,s3.mono fun c' hc=>?_⟩⟩;rw[hnow]at hc;by_cases hk':c' (k:Int)=c k
   ·left
    funext i
    by_cases hi:i=(k:Int)
    ·rw[hi];exact hk'
    ·exact hc.2 i hi
   ·right
    funext i
    by_cases hi:i=(k:Int)
    ·rw[hi];exact(hc.1 _).resolve_left hk'
    ·rw[hc.2 i hi];unfold bZE;rw[if_neg hi]
theorem hZR {f n s:Nat}(hn:1≤n):f≤aZ2 f n s∧aZ2 f n s<f+n:=by
 have:=Nat.mod_lt (s-1) (show n>0 by omega);unfold aZ2;omega
theorem rZv {d:D}{c:Cn}(h:Clean d c){f n:Nat}(hn:1≤n)(hf:f+n≤d.sec)(r:R):
  (¬r.good∧fZg f n d r=(10,d))∨
  (r.good∧∃ d',fZg f n d r=(8,d')∧Cut d d' n∧Left d' fun c'=>c'=c)∨
  (r.good∧cZQ (lastC c f n) r=false∧∃ d',fZg f n d r=(5,d')∧bZQ d d' n 0 0∧Clean d' c)∨
  (r.good∧cZQ (lastC c f n) r=true∧∃ d',fZg f n d r=(8,d')∧Cut d d' (n+2)∧Left d' fun c'=>c'=c∨c'=bZE c (aZ2 f n r.s) (r.form d.size))∨
  (r.good∧cZQ (lastC c f n) r=true∧∃ d',fZg f n d r=(0,d')∧bZQ d d' n 1 1∧Clean d' (bZE c (aZ2 f n r.s) (r.form d.size))):=by
 by_cases hg:r.good
 ·right;have e0:fZg f n d r=if(aZ4 f n d).1≠0 then((aZ4 f n d).1,(aZ4 f n d).2.1)else if cZQ (eZu (aZ4 f n d)) r=false then(5,(aZ4 f n d).2.1)else mZf f n (aZ4 f n d).2.1 r:=by
   unfold fZg;rw[if_neg (fun h=>h hg)]
  rcases kZu h f n hf with⟨h1,h2⟩|⟨j,h1,h2,h3⟩
  ·right;rw[h2,oZi,if_neg (by simp)]at e0;have hw:=bZQ.rdG h1;have hc:=h.rdG n;cases hm:cZQ (lastC c f n) r with
   |false=>
    left;rw[if_pos hm]at e0;exact⟨hg,rfl,_,e0,hw,hc⟩
   |true=>
    right;rw[if_neg (by rw[hm];simp)]at e0;have hsl:=hZR (f:=f) (s:=r.s) hn;have hp:=jZt hc (aZ2 f n r.s) (by show _<d.sec;omega) (r.form d.size) (jZv r h.ok.size.1);have e1:mZf f n (D.rdG d n) r=gZ8 (D.rdG d n) (aZ2 f n r.s) (r.form d.size):=rfl;rw[e1]at e0;obtain⟨d',⟨e2,h4,h5⟩|⟨e2,h4,h5⟩⟩:=hp
    ·exact .inr ⟨hg,rfl,d',e0.trans e2,by have:=hw.trans h4;simpa using this,h5⟩
    ·exact .inl ⟨hg,rfl,d',e0.trans e2,by have:=hw.cut h4;simpa using this,h5⟩
  ·left;rw[h3,if_pos (by show(8:Int)≠0;decide)]at e0;exact⟨hg,_,e0,Cut.rdG h h2 h1,Left.rdG h j⟩
 ·left;exact⟨hg,by unfold fZg;rw[if_pos hg]⟩
theorem tZx {c:Cn}{f n size:Nat}(hn:1≤n)(hsz:32≤size)(hsec:secB (size:Int)=true){r:R}(hg:r.good)(hu:r.u32)(hm:cZQ (lastC c f n) r=true):
  lastC (bZE c (aZ2 f n r.s) (r.form size)) f n=some r:=by
 have hsl:=hZR (f:=f) (s:=r.s) hn;have ht:=qZX r hg hu hsz hsec;have hstand:∀ j,j<n→∀ x,x∈fZd f n (bZE c (aZ2 f n r.s) (r.form size) ((f+j:Nat):Int)) j→x=r∨x∈stC c f n n 0:=fun j hj x hx=>by
  unfold bZE at hx;by_cases e:((f+j:Nat):Int)=(aZ2 f n r.s:Nat)
  ·rw[if_pos e,jZF,ht]at hx;exact .inl hx.2.2
  ·rw[if_neg e]at hx;exact .inr ((hZA c f n x n 0).2 ⟨j,Nat.zero_le _,by omega,hx⟩)
 have hless:∀ x∈stC c f n n 0,x.s<r.s:=fun x hx=>by
  unfold cZQ at hm;cases hq:lastC c f n with
  |none=>
   have e:stC c f n n 0=[]:=(jZl _).1 hq;rw[e]at hx;cases hx
  |some q=>
   rw[hq]at hm;have ha:after q r:=of_decide_eq_true hm;have:=(mZP hq).2 x hx;have:=ha.2.2.1;omega
 refine tZv (q:=r) ?_ (fun x hx=>?_) fun x hx e=>?_
 ·refine(hZA _ f n r n 0).2 ⟨aZ2 f n r.s-f,Nat.zero_le _,by omega,?_⟩;rw[show f+(aZ2 f n r.s-f)=aZ2 f n r.s by omega,jZF];unfold bZE;rw[if_pos rfl,ht];exact⟨rfl,by omega,rfl⟩
 ·obtain⟨j,_,h2,h3⟩:=(hZA _ f n x n 0).1 hx;rcases hstand j (by omega) x h3 with e|e
  ·rw[e];exact Nat.le_refl _
  ·exact Nat.le_of_lt (hless x e)
 ·obtain⟨j,_,h2,h3⟩:=(hZA _ f n x n 0).1 hx;rcases hstand j (by omega) x h3 with e'|e'
  ·exact e'
  ·have:=hless x e';omega
end Eng
namespace Fft
abbrev Zp :=Fin 18446744069414584321
def pw (x:Zp):Nat→Zp
 |0=>1
 |n+1=>pw x n*x
theorem eZV (x:Zp)(a:Nat):∀ b,pw x (a+b)=pw x a*pw x b
 |0=>by show pw x a=pw x a*1;grind
 |b+1=>by
  have ih:=eZV x a b;show pw x (a+b)*x=pw x a*(pw x b*x)
  grind
theorem gZn :∀ n,pw 1 n=1
 |0=>rfl
 |n+1=>by show pw 1 n*1=1;rw[gZn n];grind
theorem xZg (x:Zp):pw x 1=x:=by show 1*x=x;grind
theorem bZM (x:Zp)(a:Nat):∀ b,pw x (a*b)=pw (pw x a) b
 |0=>rfl
 |b+1=>by
  rw[Nat.mul_succ,eZV,bZM x a b];rfl
theorem lZy (x y:Zp):∀ n,pw (x*y) n=pw x n*pw y n
 |0=>by show(1:Zp)=1*1;grind
 |n+1=>by
  have ih:=lZy x y n;show pw (x*y) n*(x*y)=pw x n*x*(pw y n*y)
  grind
def sm (f:Nat→Zp):Nat→Zp
 |0=>0
 |n+1=>sm f n+f n
theorem fZJ {f g:Nat→Zp}:∀(n:Nat),(∀ i,i<n→f i=g i)→sm f n=sm g n
 |0,_=>rfl
 |n+1,h=>by
  show sm f n+f n=sm g n+g n
  rw[fZJ n fun i hi=>h i (by omega),h n (by omega)]
theorem oZO (a:Zp)(f:Nat→Zp):∀ n,sm (fun i=>a*f i) n=a*sm f n
 |0=>by show(0:Zp)=a*0;grind
 |n+1=>by
  have ih:=oZO a f n;show sm (fun i=>a*f i) n+a*f n=a*(sm f n+f n)
  grind
theorem pZX (f g:Nat→Zp):∀ n,sm (fun i=>f i+g i) n=sm f n+sm g n
 |0=>by show(0:Zp)=0+0;grind
 |n+1=>by
  have ih:=pZX f g n;show sm (fun i=>f i+g i) n+(f n+g n)=(sm f n+f n)+(sm g n+g n)
  grind
theorem pZ1 :∀ n,sm (fun _=>0) n=0
 |0=>rfl
 |n+1=>by show sm (fun _=>0) n+0=0;rw[pZ1 n];grind
theorem sZB (f:Nat→Zp)(a:Nat):∀ b,sm f (a+b)=sm f a+sm (fun i=>f (a+i)) b
 |0=>by show sm f a=sm f a+0;grind
 |b+1=>by
  have ih:=sZB f a b;show sm f (a+b)+f (a+b)=sm f a+(sm (fun i=>f (a+i)) b+f (a+b))
  grind
theorem pZZ (f:Nat→Zp)(c:Nat):∀ r,sm f (r*c)=sm (fun i=>sm (fun j=>f (i*c+j)) c) r
 |0=>by rw[Nat.zero_mul];rfl
 |r+1=>by
  rw[Nat.succ_mul,sZB,pZZ f c r];rfl
theorem pZ0 (f:Nat→Nat→Zp)(m:Nat):∀ n,sm (fun i=>sm (fun j=>f i j) m) n=sm (fun j=>sm (fun i=>f i j) n) m
 |0=>by
  show(0:Zp)=sm (fun j=>0) m
  rw[pZ1]
 |n+1=>by
  show sm (fun i=>sm (fun j=>f i j) m) n+sm (fun j=>f n j) m=sm (fun j=>sm (fun i=>f i j) n+f n j) m
  rw[pZX,pZ0 f m n]
theorem pZY (f:Nat→Zp):∀ n,sm f (2*n)=sm (fun i=>f (2*i)) n+sm (fun i=>f (2*i+1)) n
 |0=>by show(0:Zp)=0+0;grind
 |n+1=>by
  have ih:=pZY f n;show sm f (2*n)+f (2*n)+f (2*n+1)=(sm (fun i=>f (2*i)) n+f (2*n))+(sm (fun i=>f (2*i+1)) n+f (2*n+1))
  grind
def dft (w:Zp)(n:Nat)(l:Nat→Zp)(j:Nat):Zp:=sm (fun i=>l i*pw w (i*j)) n
theorem hZ2 {w:Zp}{n:Nat}{l l':Nat→Zp}(h:∀ i,i<n→l i=l' i)(j:Nat):dft w n l j=dft w n l' j:=
 fZJ n fun i hi=>by rw[h i hi]
theorem mZC (w:Zp)(m:Nat)(l:Nat→Zp)(j:Nat):dft w (2*m) l j=dft (w*w) m (fun i=>l (2*i)) j+pw w j*dft (w*w) m (fun i=>l (2*i+1)) j:=by
 have hww:w*w=pw w 2:=by show w*w=1*w*w;grind
 have hp:∀ i,pw w (2*i*j)=pw (w*w) (i*j):=fun i=>by rw[hww,←bZM,Nat.mul_assoc]
 unfold dft;rw[pZY,←oZO];congr 1
 ·exact fZJ m fun i _=>by rw[hp]
 ·refine fZJ m fun i _=>?_
  rw[show(2*i+1)*j=2*i*j+j by rw[Nat.succ_mul],eZV,hp];grind
theorem lZh {w:Zp}{m:Nat}(h:pw w m=1)(n:Nat)(l:Nat→Zp)(j:Nat):dft w n l (j+m)=dft w n l j:=
 fZJ n fun i _=>by
  have e:pw w (i*m)=1:=by rw[Nat.mul_comm,bZM,h,gZn]
  rw[Nat.mul_add,eZV,e];grind
theorem wZi (w:Zp)(m:Nat)(l:Nat→Zp)(j:Nat):dft w (2*m) l j=dft (w*w) m (fun i=>l (2*i)) j+dft (w*w) m (fun i=>l (2*i+1)) j*pw w j:=by
 rw[mZC];grind
theorem wZh {w:Zp}{m:Nat}(h:pw w m=-1)(l:Nat→Zp)(j:Nat):dft w (2*m) l (j+m)=dft (w*w) m (fun i=>l (2*i)) j-dft (w*w) m (fun i=>l (2*i+1)) j*pw w j:=by
 have h2:pw (w*w) m=1:=by rw[lZy,h];grind
 rw[mZC,lZh h2,lZh h2,eZV,h];grind
def rv :Nat→Nat→Nat
 |0,_=>0
 |k+1,x=>x%2*2^k+rv k (x/2)
theorem jZ3 :∀ k x,rv k x<2^k
 |0,_=>Nat.one_pos
 |k+1,x=>by
  have h1:=jZ3 k (x/2);have h2:x%2<2:=Nat.mod_lt _ (by omega);show x%2*2^k+rv k (x/2)<2^(k+1)
  rw[Nat.pow_succ];rcases(by omega:x%2=0∨x%2=1)with e|e<;>rw[e]<;>omega
def stg (w:Zp)(k:Nat)(l:Nat→Zp)(s:Nat)(p:Nat):Zp:=
 dft (pw w (2^(k-s))) (2^s) (fun t=>l (rv (k-s) (p/2^s)+t*2^(k-s))) (p%2^s)
theorem tZ6 (w:Zp)(k:Nat)(l:Nat→Zp)(p:Nat):stg w k l 0 p=l (rv k p):=by
 unfold stg dft;rw[Nat.pow_zero,Nat.div_one,Nat.mod_one,Nat.sub_zero];show 0+l (rv k p+0*2^k)*pw _ (0*0)=_
 rw[Nat.zero_mul,Nat.add_zero,Nat.mul_zero];show 0+l (rv k p)*1=_
 grind
theorem vZD (w:Zp)(k:Nat)(l:Nat→Zp){p:Nat}(h:p<2^k):stg w k l k p=dft w (2^k) l p:=by
 unfold stg;rw[Nat.sub_self,Nat.pow_zero,xZg,Nat.mod_eq_of_lt h];refine hZ2 (fun i _=>?_) p;show l (0+i*1)=l i
 rw[Nat.zero_add,Nat.mul_one]
theorem tZ5 (w:Zp)(k:Nat)(l:Nat→Zp){s:Nat}(hs:s<k)(hw:pw w (2^(k-1))=-1)(b i:Nat)(hi:i<2^s):
  stg w k l (s+1) (b*(2*2^s)+i)=stg w k l s (b*(2*2^s)+i)+stg w k l s (b*(2*2^s)+i+2^s)*pw w (i*2^(k-s-1))∧
  stg w k l (s+1) (b*(2*2^s)+i+2^s)=stg w k l s (b*(2*2^s)+i)-stg w k l s (b*(2*2^s)+i+2^s)*pw w (i*2^(k-s-1)):=by
 have hp:0<2^s:=Nat.pos_of_ne_zero (by have:=Nat.two_pow_pos s;omega);obtain⟨m,hm⟩:∃ m,k=s+1+m:=⟨k-s-1,by omega⟩;have e1:k-(s+1)=m:=by omega
 have e2:k-s=m+1:=by omega
 have e3:k-s-1=m:=by omega
  -- the words of both classes
 have a1:(b*(2*2^s)+i)/2^(s+1)=b:=by
  rw[Nat.pow_succ,Nat.mul_comm (2^s) 2,Nat.add_comm,Nat.add_mul_div_right _ _ (by omega),Nat.div_eq_of_lt (by omega),Nat.zero_add]
 have a2:(b*(2*2^s)+i)%2^(s+1)=i:=by
  rw[Nat.pow_succ,Nat.mul_comm (2^s) 2,Nat.add_comm,Nat.add_mul_mod_self_right,Nat.mod_eq_of_lt (by omega)]
 have a3:(b*(2*2^s)+i+2^s)/2^(s+1)=b:=by
  rw[Nat.pow_succ,Nat.mul_comm (2^s) 2,Nat.add_assoc,Nat.add_comm,Nat.add_mul_div_right _ _ (by omega),Nat.div_eq_of_lt (by omega),Nat.zero_add]
 have a4:(b*(2*2^s)+i+2^s)%2^(s+1)=i+2^s:=by
  rw[Nat.pow_succ,Nat.mul_comm (2^s) 2,Nat.add_assoc,Nat.add_comm,Nat.add_mul_mod_self_right,Nat.mod_eq_of_lt (by omega)]
 have hb:b*(2*2^s)=(2*b)*2^s:=by rw[Nat.mul_comm 2 b,Nat.mul_assoc]
 have b1:(b*(2*2^s)+i)/2^s=2*b:=by
  rw[hb,Nat.add_comm,Nat.add_mul_div_right _ _ hp,Nat.div_eq_of_lt hi,Nat.zero_add]
 have b2:(b*(2*2^s)+i)%2^s=i:=by
  rw[hb,Nat.add_comm,Nat.add_mul_mod_self_right,Nat.mod_eq_of_lt hi]
 have hb':b*(2*2^s)+i+2^s=i+(2*b+1)*2^s:=by rw[hb,Nat.add_mul (2*b) 1,Nat.one_mul];omega
 have b3:(b*(2*2^s)+i+2^s)/2^s=2*b+1:=by
  rw[hb',Nat.add_mul_div_right _ _ hp,Nat.div_eq_of_lt hi,Nat.zero_add]
 have b4:(b*(2*2^s)+i+2^s)%2^s=i:=by
  rw[hb',Nat.add_mul_mod_self_right,Nat.mod_eq_of_lt hi]
 have r1:rv (m+1) (2*b)=rv m b:=by
  show(2*b)%2*2^m+rv m ((2*b)/2)=_
  rw[show(2*b)%2=0 by omega,show(2*b)/2=b by omega];omega
 have r2:rv (m+1) (2*b+1)=rv m b+2^m:=by
  show(2*b+1)%2*2^m+rv m ((2*b+1)/2)=_
  rw[show(2*b+1)%2=1 by omega,show(2*b+1)/2=b by omega];omega
 have hww:pw w (2^m)*pw w (2^m)=pw w (2^(m+1)):=by
  rw[← eZV];congr 1;rw[Nat.pow_succ];omega
 have hneg:pw (pw w (2^m)) (2^s)=-1:=by
  rw[← bZM,←Nat.pow_add,show m+s=k-1 by omega,hw]
 have hpow:pw (pw w (2^m)) i=pw w (i*2^m):=by rw[← bZM,Nat.mul_comm]
 have c1:∀ t,rv m b+2*t*2^m=rv m b+t*2^(m+1):=fun t=>by rw[Nat.pow_succ,Nat.mul_comm (2^m) 2,←Nat.mul_assoc,Nat.mul_comm t 2]
 have c2:∀ t,rv m b+(2*t+1)*2^m=rv m b+2^m+t*2^(m+1):=fun t=>by rw[Nat.succ_mul,Nat.pow_succ,Nat.mul_comm (2^m) 2,←Nat.mul_assoc,Nat.mul_comm t 2];omega
 unfold stg;rw[a1,a2,a3,a4,b1,b2,b3,b4,e1,e3,e2,r1,r2,←hww];rw[show 2^(s+1)=2*2^s by rw[Nat.pow_succ];omega];constructor
 ·rw[wZi,hpow];simp only[c1,c2]
 ·rw[wZh hneg,hpow];simp only[c1,c2]
theorem sZi :∀ n,pw (-1) (2*n)=1∧pw (-1) (2*n+1)=-1
 |0=>⟨rfl,by show(1:Zp)* -1=-1;grind⟩
 |n+1=>by
  obtain⟨h1,h2⟩:=sZi n;have e:pw (-1) (2*(n+1))=1:=by
   show pw (-1) (2*n+1)* -1=1
   rw[h2];grind
  exact⟨e,by show pw (-1) (2*(n+1))* -1=-1;rw[e];grind⟩
theorem tZs {w:Zp}{R C:Nat}(hw:pw w (R*C)=1)(l:Nat→Zp)(m j:Nat):
  dft w (R*C) l (m*R+j)=dft (pw w R) C (fun c=>dft (pw w C) R (fun r=>l (r*C+c)) j*pw w (c*j)) m:=by
 have e1:∀ r c,pw w ((r*C+c)*(m*R+j))=pw (pw w C) (r*j)*pw w (c*j)*pw (pw w R) (c*m):=fun r c=>by
  rw[← bZM,←bZM,show(r*C+c)*(m*R+j)=(R*C)*(r*m)+(C*(r*j)+c*j+R*(c*m)) by grind,eZV,bZM w (R*C),hw,gZn,eZV,eZV];grind
 unfold dft;rw[pZZ,pZ0];refine fZJ C fun c _=>?_
 have e2:∀ r,l (r*C+c)*pw w ((r*C+c)*(m*R+j))=(pw w (c*j)*pw (pw w R) (c*m))*(l (r*C+c)*pw (pw w C) (r*j)):=fun r=>by rw[e1];grind
 simp only[e2];rw[oZO];grind
def pwB :Nat→Zp→Nat→Zp
 |0,_,_=>1
 |f+1,x,n=>if n=0 then 1 else if n%2=1 then pwB f (x*x) (n/2)*x else pwB f (x*x) (n/2)
theorem oZD :∀(f:Nat) (x:Zp) (n:Nat),n<2^f→pwB f x n=pw x n
 |0,x,n,h=>by
  obtain rfl:n=0:=by simpa using h
  rfl
 |f+1,x,n,h=>by
  have hx:x*x=pw x 2:=by show x*x=1*x*x;grind
  unfold pwB;by_cases h0:n=0
  ·rw[if_pos h0,h0];rfl
  ·rw[if_neg h0,oZD f (x*x) (n/2) (by rw[Nat.pow_succ]at h;omega),hx,←bZM];by_cases h1:n%2=1
   ·rw[if_pos h1];have e:n=2*(n/2)+1:=by omega
    show pw x (2*(n/2)+1)=pw x n
    rw[← e]
   ·rw[if_neg h1];have e:n=2*(n/2):=by omega
    rw[← e]
theorem oZb :pw 7 9223372034707292160=-1:=by
 rw[← oZD 64 7 9223372034707292160 (by decide)];decide +kernel
def rt (k:Nat):Zp:=pw 7 (18446744069414584320/2^k)
theorem iZw {k:Nat}(h:k≤32):18446744069414584320/2^k*2^k=18446744069414584320:=by
 refine Nat.div_mul_cancel ?_;refine Nat.dvd_trans (Nat.pow_dvd_pow 2 h) ?_;decide
theorem jZx {k:Nat}(h:k≤32):pw (rt k) (2^k)=1:=by
 unfold rt;rw[← bZM,iZw h];refine(congrArg (pw 7) (by decide:18446744069414584320=9223372034707292160*2)).trans ?_;rw[bZM,oZb];show(1:Zp)* -1* -1=1
 grind
theorem sZu {k:Nat}(h:k≤32)(h0:0<k):pw (rt k) (2^(k-1))=-1:=by
 unfold rt;have e:=iZw h;obtain⟨m,rfl⟩:∃ m,k=m+1:=⟨k-1,by omega⟩;rw[Nat.add_sub_cancel,←bZM];have:18446744069414584320/2^(m+1)*2^m=9223372034707292160:=by
  rw[Nat.pow_succ,←Nat.mul_assoc]at e;rw[Nat.pow_succ];omega
 rw[this,oZb]
theorem sZv {k a:Nat}(h:k≤32)(ha:a≤k):pw (rt k) (2^(k-a))=rt a:=by
 unfold rt;rw[← bZM];congr 1;have e1:=iZw h;have e2:=iZw (k:=a) (by omega);have e3:2^k=2^(k-a)*2^a:=by rw[← Nat.pow_add];congr 1;omega
 rw[e3,←Nat.mul_assoc]at e1;have hp:=Nat.two_pow_pos a;rw[← e3]at e1;exact Nat.eq_of_mul_eq_mul_right hp (e1.trans e2.symm)
def rtd (d:Bool)(k:Nat):Zp:=match d with|false=>rt k|true=>pw (rt k) (2^k-1)
theorem wZC {k:Nat}(h:k≤32):rt k*pw (rt k) (2^k-1)=1:=by
 have e:pw (rt k) (2^k-1+1)=pw (rt k) (2^k-1)*rt k:=rfl;have hp:=Nat.two_pow_pos k;rw[show 2^k-1+1=2^k by omega,jZx h]at e;grind
theorem vZu (d:Bool){k:Nat}(h:k≤32):pw (rtd d k) (2^k)=1:=by
 cases d
 ·exact jZx h
 ·show pw (pw (rt k) (2^k-1)) (2^k)=1
  rw[← bZM,Nat.mul_comm,bZM,jZx h,gZn]
theorem vZt (d:Bool){k:Nat}(h:k≤32)(h0:0<k):pw (rtd d k) (2^(k-1))=-1:=by
 cases d
 ·exact sZu h h0
 ·show pw (pw (rt k) (2^k-1)) (2^(k-1))=-1
  rw[← bZM,Nat.mul_comm,bZM,sZu h h0];obtain⟨m,rfl⟩:∃ m,k=m+1:=⟨k-1,by omega⟩;have hp:=Nat.two_pow_pos m;rw[show 2^(m+1)-1=2*(2^m-1)+1 by rw[Nat.pow_succ];omega,(sZi _).2]
theorem pZR (d:Bool){k a:Nat}(h:k≤32)(ha:a≤k):pw (rtd d k) (2^(k-a))=rtd d a:=by
 cases d
 ·exact sZv h ha
 ·show pw (pw (rt k) (2^k-1)) (2^(k-a))=pw (rt a) (2^a-1)
  rw[← bZM,Nat.mul_comm,bZM,sZv h ha];have e:2^k-1=(2^a)*(2^(k-a)-1)+(2^a-1):=by
   have hp:=Nat.two_pow_pos a;have hq:=Nat.two_pow_pos (k-a);have e3:2^k=2^a*2^(k-a):=by rw[← Nat.pow_add];congr 1;omega
   rw[e3,Nat.mul_sub_one];have:2^a*1≤2^a*2^(k-a):=Nat.mul_le_mul_left _ hq;omega
  rw[e,eZV,bZM,jZx (by omega),gZn];grind
def zp (a:Nat):Zp:=Fin.ofNat _ a
theorem oZ0 (a:Nat):(zp a).val=a%18446744069414584321:=rfl
theorem fZT (z:Zp):zp z.val=z:=Fin.ext (Nat.mod_eq_of_lt z.isLt)
theorem wZP (a b:Nat):zp (a*b)=zp a*zp b:=Fin.ext (by
 rw[Fin.val_mul,oZ0,oZ0,oZ0,←Nat.mul_mod])
theorem oZZ (a:Nat):∀ n,zp (a^n)=pw (zp a) n
 |0=>rfl
 |n+1=>by rw[Nat.pow_succ,wZP,oZZ a n];rfl
def zw (w:UInt64):Zp:=zp w.toNat
def uw (z:Zp):UInt64:=UInt64.ofNat z.val
theorem lZR (z:Zp):(uw z).toNat=z.val:=UInt64.toNat_ofNat_of_lt' (by have:=z.isLt;show z.val<18446744073709551616;omega)
theorem jZ8 (z:Zp):zw (uw z)=z:=by unfold zw;rw[lZR,fZT]
theorem hZV (z:Zp):((uw z).toNat:Int)=(z.val:Int):=by rw[lZR]
def at' (l:List UInt64)(i:Nat):Zp:=zw (l.getD i 0)
theorem rZw {l:List UInt64}{i:Nat}(h:i<l.length):at' l i=zw l[i]:=by unfold at';rw[List.getD_eq_getElem?_getD,List.getElem?_eq_getElem h];rfl
end Fft
namespace Fft
def swp (m:BitVec 64)(d:Nat)(x:BitVec 64):BitVec 64:=((x>>>d)&&&m)|||((x&&&m)<<<d)
def eZX (m:BitVec 64)(d i:Nat):Nat:=if m.getLsbD i then i+d else i-d
def wZ5 (m:BitVec 64)(d:Nat):Bool:=(List.range 64).all fun i=>if m.getLsbD i then decide (i+d<64)&&(decide (i<d)|| !m.getLsbD (i-d))else decide (d≤i)&&m.getLsbD (i-d)
theorem swp_get {m:BitVec 64}{d:Nat}(h:wZ5 m d=true)(x:BitVec 64){i:Nat}(hi:i<64):(swp m d x).getLsbD i=x.getLsbD (eZX m d i):=by
 have h1:=List.all_eq_true.1 h i (List.mem_range.2 hi);unfold swp eZX;simp only[BitVec.getLsbD_or,BitVec.getLsbD_and,BitVec.getLsbD_ushiftRight,BitVec.getLsbD_shiftLeft];by_cases hm:m.getLsbD i=true
 ·simp only[hm,if_true]at h1⊢;simp only[Bool.and_eq_true,decide_eq_true_eq,Bool.or_eq_true,Bool.not_eq_true']at h1;rcases h1.2 with h2|h2
  ·rw[Nat.add_comm d i];simp[h2]
  ·rw[Nat.add_comm d i,h2];simp
 ·have hm':m.getLsbD i=false:=by simpa using hm
  simp only[hm',Bool.false_eq_true,if_false]at h1⊢;simp only[Bool.and_eq_true,decide_eq_true_eq]at h1;rw[h1.2];have:¬i<d:=by omega
  simp[hi,this]
def nZJ (x:BitVec 64):BitVec 64:=
 let x:=swp 0x5555555555555555#64 1 x
 let x:=swp 0x3333333333333333#64 2 x
 let x:=swp 0x0f0f0f0f0f0f0f0f#64 4 x
 let x:=swp 0x00ff00ff00ff00ff#64 8 x
 let x:=swp 0x0000ffff0000ffff#64 16 x
 (x>>>32)|||(x<<<32)
theorem sZq (x:BitVec 64){i:Nat}(hi:i<64):(nZJ x).getLsbD i=x.getLsbD (63-i):=by
 unfold nZJ;simp only[BitVec.getLsbD_or,BitVec.getLsbD_ushiftRight,BitVec.getLsbD_shiftLeft];have hb:(List.range 64).all (fun i=>decide (eZX 0x0000ffff0000ffff#64 16 i<64)&&decide (eZX 0x00ff00ff00ff00ff#64 8 (eZX 0x0000ffff0000ffff#64 16 i)<64)&&decide (eZX 0x0f0f0f0f0f0f0f0f#64 4 (eZX 0x00ff00ff00ff00ff#64 8 (eZX 0x0000ffff0000ffff#64 16 i))<64)&&decide (eZX 0x3333333333333333#64 2 (eZX 0x0f0f0f0f0f0f0f0f#64 4 (eZX 0x00ff00ff00ff00ff#64 8 (eZX 0x0000ffff0000ffff#64 16 i)))<64)&&
   decide (eZX 0x5555555555555555#64 1 (eZX 0x3333333333333333#64 2 (eZX 0x0f0f0f0f0f0f0f0f#64 4 (eZX 0x00ff00ff00ff00ff#64 8 (eZX 0x0000ffff0000ffff#64 16 i))))=(if i<32 then 31-i else 95-i)))=true:=by decide +kernel
 have key:∀ j,j<64→(swp 0x0000ffff0000ffff#64 16 (swp 0x00ff00ff00ff00ff#64 8 (swp 0x0f0f0f0f0f0f0f0f#64 4 (swp 0x3333333333333333#64 2 (swp 0x5555555555555555#64 1 x))))).getLsbD j=x.getLsbD (if j<32 then 31-j else 95-j):=fun j hj=>by
  have:=List.all_eq_true.1 hb j (List.mem_range.2 hj);simp only[Bool.and_eq_true,decide_eq_true_eq]at this;obtain⟨⟨⟨⟨h1,h2⟩,h3⟩,h4⟩,h5⟩:=this;rw[swp_get (by decide +kernel) _ hj,swp_get (by decide +kernel) _ h1,swp_get (by decide +kernel) _ h2,swp_get (by decide +kernel) _ h3,swp_get (by decide +kernel) _ h4,h5]
 by_cases h:i<32
 ·rw[key (32+i) (by omega),if_neg (by omega),show 95-(32+i)=63-i by omega];simp[h]
 ·have hge:¬32+i<64:=by omega
  rw[BitVec.getLsbD_of_ge _ (32+i) (by omega),key (i-32) (by omega),if_pos (by omega),show 31-(i-32)=63-i by omega];simp[h,hi]
theorem lZL :∀(k x j:Nat),(rv k x).testBit j=(decide (j<k)&&x.testBit (k-1-j))
 |0,x,j=>by simp[rv]
 |k+1,x,j=>by
  show(x%2*2^k+rv k (x/2)).testBit j=_
  have hlt:=jZ3 k (x/2);rw[Nat.mul_comm,Nat.testBit_two_pow_mul_add _ hlt];by_cases h:j<k
  ·rw[if_pos h,lZL k (x/2) j,Nat.testBit_div_two];have:k-1-j+1=k+1-1-j:=by omega
   rw[this];have h2:j<k+1:=by omega
   simp[h,h2]
  ·rw[if_neg h];by_cases e:j=k
   ·subst e;rw[Nat.sub_self,Nat.testBit_zero,Nat.mod_mod];have:x.testBit (j+1-1-j)=x.testBit 0:=by rw[show j+1-1-j=0 by omega]
    rw[this,Nat.testBit_zero];simp
   ·have:¬j<k+1:=by omega
    simp[this];have h3:j-k=(j-k-1)+1:=by omega
    rw[h3,Nat.testBit_succ];have:x%2/2=0:=by omega
    rw[this];simp
theorem wZB {k x:Nat}(hk:k≤32)(hx:x<2^k):(nZJ (BitVec.ofNat 64 x)).toNat>>>(64-k)=rv k x:=by
 apply Nat.eq_of_testBit_eq;intro j;rw[Nat.testBit_shiftRight,BitVec.testBit_toNat,lZL];by_cases h:j<k
 ·rw[sZq _ (by omega),BitVec.getLsbD_ofNat];have h1:63-(64-k+j)<64:=by omega
  have h2:63-(64-k+j)=k-1-j:=by omega
  simp[h,h2];intro _;omega
 ·rw[BitVec.getLsbD_of_ge _ _ (by omega)];simp[h]
theorem uZA (k x:Nat)(hx:x<2^k):rv k (rv k x)=x:=by
 apply Nat.eq_of_testBit_eq;intro j;rw[lZL,lZL];by_cases h:j<k
 ·have h1:k-1-j<k:=by omega
  have h2:k-1-(k-1-j)=j:=by omega
  simp[h,h1,h2]
 ·simp[h];exact Nat.testBit_lt_two_pow (Nat.lt_of_lt_of_le hx (Nat.pow_le_pow_right (by omega) (by omega)))
def dn (h b i p:Nat):Bool:=decide (p<b*(2*h)+i∨(b*(2*h)+h≤p∧p<b*(2*h)+h+i))
def stL (w:Zp)(k:Nat)(l:Nat→Zp)(s:Nat)(f:Nat→Bool):List UInt64:=(List.range (2^k)).map fun p=>uw (if f p=true then stg w k l (s+1) p else stg w k l s p)
theorem jZ4 (w:Zp)(k:Nat)(l:Nat→Zp)(s:Nat)(f:Nat→Bool):(stL w k l s f).length=2^k:=by simp[stL]
theorem hZB (w:Zp)(k:Nat)(l:Nat→Zp)(s:Nat)(f:Nat→Bool){p:Nat}(hp:p<2^k):(stL w k l s f)[p]? =some (uw (if f p=true then stg w k l (s+1) p else stg w k l s p)):=by
 unfold stL;rw[List.getElem?_map,List.getElem?_range hp];rfl
theorem sZE {w:Zp}{k:Nat}{l:Nat→Zp}{s:Nat}{f g:Nat→Bool}(h:∀ p,p<2^k→f p=g p):stL w k l s f=stL w k l s g:=by
 unfold stL;apply List.map_congr_left;intro p hp;rw[h p (List.mem_range.1 hp)]
theorem uZ0 (h b i:Nat)(hi:i<h):dn h b i (b*(2*h)+i)=false∧dn h b i (b*(2*h)+i+h)=false:=by
 unfold dn;exact⟨decide_eq_false (by omega),decide_eq_false (by omega)⟩
theorem tZ2 {w:Zp}{k:Nat}{l:Nat→Zp}{s b i:Nat}(h:Nat)(hi:i<h)(hp:b*(2*h)+i+h<2^k):
  ((stL w k l s (dn h b i)).set (b*(2*h)+i) (uw (stg w k l (s+1) (b*(2*h)+i)))).set (b*(2*h)+i+h) (uw (stg w k l (s+1) (b*(2*h)+i+h)))=stL w k l s (dn h b (i+1)):=by
 apply List.ext_getElem?;intro p;rw[List.getElem?_set,List.getElem?_set];simp only[List.length_set,jZ4];by_cases hlt:p<2^k
 ·by_cases e1:b*(2*h)+i+h=p
  ·subst e1;rw[if_pos rfl,if_pos hp,hZB _ _ _ _ _ hlt,if_pos (show dn h b (i+1) _=true from decide_eq_true (by omega))]
  ·rw[if_neg e1];by_cases e2:b*(2*h)+i=p
   ·subst e2;rw[if_pos rfl,if_pos hlt,hZB _ _ _ _ _ hlt,if_pos (show dn h b (i+1) _=true from decide_eq_true (by omega))]
   ·rw[if_neg e2,hZB _ _ _ _ _ hlt,hZB _ _ _ _ _ hlt];have:dn h b i p=dn h b (i+1) p:=by
     unfold dn;rw[decide_eq_decide];omega
    rw[this]
 ·rw[if_neg (by omega),if_neg (by omega),List.getElem?_eq_none (by rw[jZ4];omega),List.getElem?_eq_none (by rw[jZ4];omega)]
theorem tZ1 {w:Zp}{k:Nat}{l:Nat→Zp}{s b:Nat}(h:Nat):stL w k l s (dn h b h)=stL w k l s (dn h (b+1) 0):=
 sZE fun p _=>by
  unfold dn;rw[decide_eq_decide,Nat.add_mul b 1,Nat.one_mul];omega
theorem vZC {w:Zp}{k:Nat}{l:Nat→Zp}{s b:Nat}(h h':Nat)(hb:2^k≤b*(2*h)):stL w k l s (dn h b 0)=stL w k l (s+1) (dn h' 0 0):=by
 unfold stL;apply List.map_congr_left;intro p hp;have:=List.mem_range.1 hp;rw[if_pos (show dn h b 0 p=true from decide_eq_true (by omega)),if_neg (show ¬dn h' 0 0 p=true by unfold dn;simp)]
def cZP (d:Bool)(k:Nat)(l:List UInt64):List UInt64:=(List.range (2^k)).map fun j=>uw (dft (rtd d k) (2^k) (at' l) j)
theorem eZR (d:Bool)(k:Nat)(l:List UInt64):(cZP d k l).length=2^k:=by simp[cZP]
theorem vZB (d:Bool)(k:Nat)(l:List UInt64)(h:Nat):stL (rtd d k) k (at' l) k (dn h 0 0)=cZP d k l:=by
 unfold stL cZP;apply List.map_congr_left;intro p hp;have:=List.mem_range.1 hp;rw[if_neg (show ¬dn h 0 0 p=true by unfold dn;simp),vZD _ _ _ this]
def eZx (k:Nat)(l:List UInt64):List UInt64:=(List.range (2^k)).map fun p=>l.getD (rv k p) 0
theorem tZ3 (w:Zp)(k:Nat)(l:List UInt64)(h:Nat):(eZx k l).map (fun x=>uw (zw x))=stL w k (at' l) 0 (dn h 0 0):=by
 unfold eZx stL;rw[List.map_map];apply List.map_congr_left;intro p hp;have:=List.mem_range.1 hp;rw[if_neg (show ¬dn h 0 0 p=true by unfold dn;simp),tZ6];rfl
end Fft
namespace W
open Go Go.Hw
theorem fZI :prog.follows .mixedOrders=true:=by kernel_rfl
def gZQ (x1:Int)(H:Hp)(K:Value→Hp→Prop):Prop:=
 BIf (decide (x1<1)) (K (.tuple #[.int .i64 0,.bool false]) H) (BIf (decide (x1>4294967296)) (K (.tuple #[.int .i64 0,.bool false]) H) (BIf ((aZF .i64 x1 (IntKind.i64.wrap (x1-1))) !=0) (K (.tuple #[.int .i64 0,.bool false]) H) (HcI 141 #[.int .u64 (IntKind.u64.wrap x1)] H fun x2 H1=>K (.tuple #[.int .i64 x2,.bool true]) H1)))
theorem gZQ.ok (x1:Int)(H:Hp)(K:Value→Hp→Prop)(h:gZQ x1 H K):Zc prog 95 #[.int .i64 x1] H K:=
 Zr Tryz.func95 rfl (nbl rfl) (Zf (Λ:=Zn.none (fun _=>none)) fZI _ _ _ _ _ (Eq.mp (by kernel_rfl) h) (Zt _ _ _ _ _))
def aZU.l6 (K:Value→Hp→Prop):Nat→Int→Option Addr→Nat→Nat→Int→Int→Int→Hp→Prop
 |0,_,_,_,_,_,_,_,_=>False
 |k+1,x3,A2,n2,m2,x4,x5,x6,H=>
  let R6:=aZU.l6 K k
  BIf (decide (x6<x5)) (ixI x6 n2 (NN A2 fun a1=>St H ((a1.add (x6.toNat*1)).add 0) (.int .u64 x4) fun H2=>HcW 243 #[.int .u64 x4,.int .u64 x3] H2 fun x7 H3=>R6 x3 A2 n2 m2 x7 x5 (IntKind.i64.wrap (x6+1)) H3)) (K (.tuple #[.slice A2 n2 m2,.int .i64 0]) H)
def aZU (x1:Int)(x2:Int)(H:Hp)(K:Value→Hp→Prop):Prop:=
 BIf (decide (x2<0)) (K (.tuple #[.slice none 0 0,.int .i64 1]) H) (BIf (decide (x2>1048576)) (K (.tuple #[.slice none 0 0,.int .i64 1]) H) (MkS prog 84 x2 x2 H fun v1 H1=>DSl v1 fun A1 n1 m1=>(∃ k,aZU.l6 K k x1 A1 n1 m1 1 (n1:Int) 0 H1)))
def aZU.l6.L (K:Value→Hp→Prop)(k:Nat):Mid:=fun E D H=>
 eI E 0 .u64 fun x3=>DG (E.get? 6) fun w6=>DSl w6 fun A2 n2 m2=>eI E 7 .u64 fun x4=>eI E 18 .i64 fun x5=>eI E 19 .i64 fun x6=>Zo D (aZU.l6 K k x3 A2 n2 m2 x4 x5 x6 H)
def aZU.Λ6 (_:Value→Hp→Prop)(_R6:Int→Option Addr→Nat→Nat→Int→Int→Int→Hp→Prop):Zn:=Zn.none (fun _=>none)
def aZU.Λ (K:Value→Hp→Prop):Zn:=⟨fun i=>none,fun i=>match Nat.beq i 6 with|true=>some (fun E D H=>∃ k,aZU.l6.L K k E D H)|false=>none,(fun _=>none)⟩
theorem aZU.ok (x1:Int)(x2:Int)(H:Hp)(K:Value→Hp→Prop)(h:aZU x1 x2 H K):Zc prog 233 #[.int .u64 x1,.int .i64 x2] H K:=
 Zr Tryz.func233 rfl (nbl rfl) (Zf (Λ:=(aZU.Λ K)) fZI _ _ _ _ _ (Eq.mp (by kernel_rfl) h) (Zb Za rfl (Zb (Zb Za rfl (Zk (Zb Za rfl Zy) Zl)) rfl (Zb Za rfl (Zb Za rfl (Zb (Zb Za rfl (Zu (ZZ rfl (fun E D H h=>by
   refine Safe.loop' (aZU.l6.L K) (fun E D H h=>?_) (fun k E D H h=>?_) E D H h
   ·obtain⟨w0,e0,g1⟩:=DG.out h;obtain⟨x3,rfl,g2⟩:=DI.out g1;obtain⟨w6,e6,g3⟩:=DG.out g2;obtain⟨A2,n2,m2,rfl,g4⟩:=DSl.out g3;obtain⟨w7,e7,g5⟩:=DG.out g4;obtain⟨x4,rfl,g6⟩:=DI.out g5;obtain⟨w18,e18,g7⟩:=DG.out g6;obtain⟨x5,rfl,g8⟩:=DI.out g7;obtain⟨w19,e19,g9⟩:=DG.out g8;obtain⟨x6,rfl,g10⟩:=DI.out g9;obtain⟨rfl,h'⟩:=Zo.out g10;exact h'
   ·obtain⟨x3,e0,g2⟩:=GI h;obtain⟨w6,e6,g3⟩:=DG.out g2;obtain⟨A2,n2,m2,rfl,g4⟩:=DSl.out g3;obtain⟨x4,e7,g6⟩:=GI g4;obtain⟨x5,e18,g8⟩:=GI g6;obtain⟨x6,e19,g10⟩:=GI g8;obtain⟨rfl,h'⟩:=Zo.out g10;exact(Zf (Λ:=(aZU.Λ6 K (aZU.l6 K k))) fZI _ _ [(0,.int .u64 x3),(6,.slice A2 n2 m2),(7,.int .u64 x4),(18,.int .i64 x5),(19,.int .i64 x6)] [] H (Eq.mp (by kernel_rfl) h') (Zb Za rfl (Zb (Zk Zl ZS) rfl (Zb (Zu (Zb Za rfl (Zb Za rfl Za))) rfl Za)))).weaken (Ze.cons e0 (Ze.cons e6 (Ze.cons e7 (Ze.cons e18 (Ze.cons e19 (Ze.nil _)))))) (Hp.le_refl _))))) rfl (Zb Za rfl Zy)))))))
def gZR (x1:Int)(H:Hp)(K:Value→Hp→Prop):Prop:=
 HcB 255 #[.int .i64 x1] H fun c1 H1=>BIf (!c1) (K (.tuple #[.int .u64 0,.int .i64 1]) H1) (HcW 256 #[.int .i64 x1] H1 fun x2 H2=>K (.tuple #[.int .u64 x2,.int .i64 0]) H2)
theorem gZR.ok (x1:Int)(H:Hp)(K:Value→Hp→Prop)(h:gZR x1 H K):Zc prog 244 #[.int .i64 x1] H K:=
 Zr Tryz.func244 rfl (nbl rfl) (Zf (Λ:=Zn.none (fun _=>none)) fZI _ _ _ _ _ (Eq.mp (by kernel_rfl) h) (Zt _ _ _ _ _))
def gZP (x1:Int)(H:Hp)(K:Value→Hp→Prop):Prop:=
 HcB 255 #[.int .i64 x1] H fun c1 H1=>BIf (!c1) (K (.tuple #[.int .u64 0,.int .i64 1]) H1) (HcW 256 #[.int .i64 x1] H1 fun x2 H2=>Hz 207 #[.int .u64 x2] H2 fun v3 H3=>gZ6 v3 fun x3 x4=>(K (.tuple #[.int .u64 x3,.int .i64 x4]) H3))
theorem gZP.ok (x1:Int)(H:Hp)(K:Value→Hp→Prop)(h:gZP x1 H K):Zc prog 245 #[.int .i64 x1] H K:=
 Zr Tryz.func245 rfl (nbl rfl) (Zf (Λ:=Zn.none (fun _=>none)) fZI _ _ _ _ _ (Eq.mp (by kernel_rfl) h) (Zt _ _ _ _ _))
def gZS (x1:Int)(H:Hp)(K:Value→Hp→Prop):Prop:=
 BIf (decide (x1≥0)) (K (.bool (decide (x1≤(32:Int)))) H) (K (.bool false) H)
theorem gZS.ok (x1:Int)(H:Hp)(K:Value→Hp→Prop)(h:gZS x1 H K):Zc prog 255 #[.int .i64 x1] H K:=
 Zr Tryz.func255 rfl (nbl rfl) (Zf (Λ:=Zn.none (fun _=>none)) fZI _ _ _ _ _ (Eq.mp (by kernel_rfl) h) (Zt _ _ _ _ _))
def gZT (x1:Int)(H:Hp)(K:Value→Hp→Prop):Prop:=
 (0≤(IntKind.u64.wrap x1)∧HcW 231 #[.int .u64 7,.int .u64 (aZE .u64 18446744069414584320 (IntKind.u64.wrap x1))] H fun x2 H1=>K (.int .u64 x2) H1)
theorem gZT.ok (x1:Int)(H:Hp)(K:Value→Hp→Prop)(h:gZT x1 H K):Zc prog 256 #[.int .i64 x1] H K:=
 Zr Tryz.func256 rfl (nbl rfl) (Zf (Λ:=Zn.none (fun _=>none)) fZI _ _ _ _ _ (Eq.mp (by kernel_rfl) h) (Zt _ _ _ _ _))
theorem fZM :prog.follows .mixedOrders=true:=by kernel_rfl
def fZ8 (x1:Int)(H:Hp)(K:Value→Hp→Prop):Prop:=
 Nw H (.obj (.cells #[.int .i64 0,.int .i64 0] 118)) fun b1 H1=>HcB 208 #[.int .i64 x1] H1 fun c1 H2=>BIf (!c1) (StA H2 ⟨b1,0,none⟩ #[.int .i64 0,.int .i64 0] 2 fun H3=>LdA H3 ⟨b1,0,none⟩ 2 fun l1=>K (.tuple #[.agg l1.toArray,.int .i64 1]) H3) (((2:Int)≠0∧IntKind.i64=IntKind.i64∧HcA 209 #[.int .i64 x1,.int .i64 (IntKind.i64.wrap (Int.tdiv x1 2))] H2 fun y1 H4=>StA H4 ⟨b1,0,none⟩ y1 2 fun H5=>LdA H5 ⟨b1,0,none⟩ 2 fun l2=>K (.tuple #[.agg l2.toArray,.int .i64 0]) H5))
theorem fZ8.ok (x1:Int)(H:Hp)(K:Value→Hp→Prop)(h:fZ8 x1 H K):Zc prog 160 #[.int .i64 x1] H K:=
 Zr Tryz.func160 rfl (nbl rfl) (Zf (Λ:=Zn.none (fun _=>none)) fZM _ _ _ _ _ (Eq.mp (by kernel_rfl) h) (Zt _ _ _ _ _))
def eZ2 (x1:Int)(x2:Int)(H:Hp)(K:Value→Hp→Prop):Prop:=
 Nw H (.obj (.cells #[.int .i64 x1,.int .i64 x2] 118)) fun b1 H1=>Nw H1 (.obj (.cells #[.int .i64 0,.int .i64 0] 118)) fun b2 H2=>LeI H2 ((⟨b1,0,none⟩:Addr).add 1) fun x3=>LeI H2 ((⟨b1,0,none⟩:Addr).add 0) fun x4=>StA H2 ⟨b2,0,none⟩ #[.int .i64 x3,.int .i64 x4] 2 fun H3=>LdA H3 ⟨b2,0,none⟩ 2 fun l1=>K (.agg l1.toArray) H3
theorem eZ2.ok (x1:Int)(x2:Int)(H:Hp)(K:Value→Hp→Prop)(h:eZ2 x1 x2 H K):Zc prog 161 #[.agg #[.int .i64 x1,.int .i64 x2]] H K:=
 Zr Tryz.func161 rfl (nbl rfl) (Zf (Λ:=Zn.none (fun _=>none)) fZM _ _ _ _ _ (Eq.mp (by kernel_rfl) h) (Zt _ _ _ _ _))
def fZ9 (x1:Int)(x2:Int)(H:Hp)(K:Value→Hp→Prop):Prop:=
 Nw H (.obj (.cells #[.int .i64 x1,.int .i64 x2] 118)) fun b1 H1=>LeI H1 ((⟨b1,0,none⟩:Addr).add 0) fun x3=>Hz 95 #[.int .i64 x3] H1 fun v2 H2=>iZe v2 fun x4 c1=>(LeI H2 ((⟨b1,0,none⟩:Addr).add 1) fun x5=>Hz 95 #[.int .i64 x5] H2 fun v6 H3=>iZe v6 fun x6 c2=>(BIf c1 (BIf c2 (K (.bool (decide ((IntKind.i64.wrap (x4+x6))≤32))) H3) (K (.bool false) H3)) (K (.bool false) H3)))
theorem fZ9.ok (x1:Int)(x2:Int)(H:Hp)(K:Value→Hp→Prop)(h:fZ9 x1 x2 H K):Zc prog 168 #[.agg #[.int .i64 x1,.int .i64 x2]] H K:=
 Zr Tryz.func168 rfl (nbl rfl) (Zf (Λ:=Zn.none (fun _=>none)) fZM _ _ _ _ _ (Eq.mp (by kernel_rfl) h) (Zt _ _ _ _ _))
def gZa (x1:Int)(x2:Int)(H:Hp)(K:Value→Hp→Prop):Prop:=
 Nw H (.obj (.cells #[.int .i64 x1,.int .i64 x2] 118)) fun b1 H1=>LdA H1 ⟨b1,0,none⟩ 2 fun l1=>HcB 168 #[.agg l1.toArray] H1 fun c1 H2=>BIf (!c1) (K (.int .i64 0) H2) (LeI H2 ((⟨b1,0,none⟩:Addr).add 0) fun x3=>LeI H2 ((⟨b1,0,none⟩:Addr).add 1) fun x4=>K (.int .i64 (IntKind.i64.wrap (x3*x4))) H2)
theorem gZa.ok (x1:Int)(x2:Int)(H:Hp)(K:Value→Hp→Prop)(h:gZa x1 x2 H K):Zc prog 169 #[.agg #[.int .i64 x1,.int .i64 x2]] H K:=
 Zr Tryz.func169 rfl (nbl rfl) (Zf (Λ:=Zn.none (fun _=>none)) fZM _ _ _ _ _ (Eq.mp (by kernel_rfl) h) (Zt _ _ _ _ _))
def gZb (x1:Int)(H:Hp)(K:Value→Hp→Prop):Prop:=
 BIf (decide (x1≥0)) (K (.bool (decide (x1≤(32:Int)))) H) (K (.bool false) H)
theorem gZb.ok (x1:Int)(H:Hp)(K:Value→Hp→Prop)(h:gZb x1 H K):Zc prog 208 #[.int .i64 x1] H K:=
 Zr Tryz.func208 rfl (nbl rfl) (Zf (Λ:=Zn.none (fun _=>none)) fZM _ _ _ _ _ (Eq.mp (by kernel_rfl) h) (Zt _ _ _ _ _))
def fZA (x1:Int)(x2:Int)(H:Hp)(K:Value→Hp→Prop):Prop:=
 Nw H (.obj (.cells #[.int .i64 0,.int .i64 0] 118)) fun b1 H1=>(0≤(IntKind.u64.wrap x2)∧(0≤(IntKind.u64.wrap (IntKind.i64.wrap (x1-x2)))∧StA H1 ⟨b1,0,none⟩ #[.int .i64 (aZY .i64 1 (IntKind.u64.wrap x2)),.int .i64 (aZY .i64 1 (IntKind.u64.wrap (IntKind.i64.wrap (x1-x2))))] 2 fun H2=>LdA H2 ⟨b1,0,none⟩ 2 fun l1=>K (.agg l1.toArray) H2))
theorem fZA.ok (x1:Int)(x2:Int)(H:Hp)(K:Value→Hp→Prop)(h:fZA x1 x2 H K):Zc prog 209 #[.int .i64 x1,.int .i64 x2] H K:=
 Zr Tryz.func209 rfl (nbl rfl) (Zf (Λ:=Zn.none (fun _=>none)) fZM _ _ _ _ _ (Eq.mp (by kernel_rfl) h) (Zt _ _ _ _ _))
theorem eZv :prog.follows .mixedOrders=true:=by kernel_rfl
def aZn.l3 (K:Value→Hp→Prop):Nat→Int→Int→Int→Hp→Prop
 |0,_,_,_,_=>False
 |k+1,x2,x3,x4,H=>
  let R3:=aZn.l3 K k
  BIf (decide (x4≤(32:Int))) (BIf (x2==x3) (K (.int .i64 x4) H) (R3 x2 (IntKind.i64.wrap (2*x3)) (IntKind.i64.wrap (x4+1)) H)) (K (.int .i64 (-1)) H)
def aZn (x1:Int)(H:Hp)(K:Value→Hp→Prop):Prop:=
 (∃ k,aZn.l3 K k x1 1 0 H)
def aZn.l3.L (K:Value→Hp→Prop)(k:Nat):Mid:=fun E D H=>
 eI E 0 .i64 fun x2=>eI E 3 .i64 fun x3=>eI E 4 .i64 fun x4=>Zo D (aZn.l3 K k x2 x3 x4 H)
def aZn.Λ3 (_:Value→Hp→Prop)(_R3:Int→Int→Int→Hp→Prop):Zn:=Zn.none (fun _=>none)
def aZn.Λ (K:Value→Hp→Prop):Zn:=⟨fun i=>none,fun i=>match Nat.beq i 3 with|true=>some (fun E D H=>∃ k,aZn.l3.L K k E D H)|false=>none,(fun _=>none)⟩
theorem aZn.ok (x1:Int)(H:Hp)(K:Value→Hp→Prop)(h:aZn x1 H K):Zc prog 33 #[.int .i64 x1] H K:=
 Zr Tryz.func33 rfl (nbl rfl) (Zf (Λ:=(aZn.Λ K)) eZv _ _ _ _ _ (Eq.mp (by kernel_rfl) h) (Zb Za rfl (Zb Za rfl (Zb (Zb Za rfl (Zu (ZZ rfl (fun E D H h=>by
   refine Safe.loop' (aZn.l3.L K) (fun E D H h=>?_) (fun k E D H h=>?_) E D H h
   ·obtain⟨w0,e0,g1⟩:=DG.out h;obtain⟨x2,rfl,g2⟩:=DI.out g1;obtain⟨w3,e3,g3⟩:=DG.out g2;obtain⟨x3,rfl,g4⟩:=DI.out g3;obtain⟨w4,e4,g5⟩:=DG.out g4;obtain⟨x4,rfl,g6⟩:=DI.out g5;obtain⟨rfl,h'⟩:=Zo.out g6;exact h'
   ·obtain⟨x2,e0,g2⟩:=GI h;obtain⟨x3,e3,g4⟩:=GI g2;obtain⟨x4,e4,g6⟩:=GI g4;obtain⟨rfl,h'⟩:=Zo.out g6;exact(Zf (Λ:=(aZn.Λ3 K (aZn.l3 K k))) eZv _ _ [(0,.int .i64 x2),(3,.int .i64 x3),(4,.int .i64 x4)] [] H (Eq.mp (by kernel_rfl) h') (Zb (Zb Za rfl (Zk Zl ZS)) rfl (Zb (Zu (Zb (Zb Za rfl (Zk (Zb Za rfl Zy) Zl)) rfl Za)) rfl Za))).weaken (Ze.cons e0 (Ze.cons e3 (Ze.cons e4 (Ze.nil _)))) (Hp.le_refl _))))) rfl (Zb Za rfl Zy)))))
def aZo.l3 (K:Value→Hp→Prop):Nat→Int→Int→Int→Hp→Prop
 |0,_,_,_,_=>False
 |k+1,x2,x3,x4,H=>
  let R3:=aZo.l3 K k
  BIf (decide (x4<x2)) (((2:Int)≠0∧IntKind.u64=IntKind.u64∧R3 x2 (IntKind.u64.wrap (Int.tdiv x3 2)) (IntKind.i64.wrap (x4+1)) H)) (HcW 88 #[.int .u64 7,.int .u64 x3] H fun x5 H1=>K (.int .u64 x5) H1)
def aZo (x1:Int)(H:Hp)(K:Value→Hp→Prop):Prop:=
 (∃ k,aZo.l3 K k x1 18446744069414584320 0 H)
def aZo.l3.L (K:Value→Hp→Prop)(k:Nat):Mid:=fun E D H=>
 eI E 0 .i64 fun x2=>eI E 3 .u64 fun x3=>eI E 4 .i64 fun x4=>Zo D (aZo.l3 K k x2 x3 x4 H)
def aZo.Λ3 (_:Value→Hp→Prop)(_R3:Int→Int→Int→Hp→Prop):Zn:=Zn.none (fun _=>none)
def aZo.Λ (K:Value→Hp→Prop):Zn:=⟨fun i=>none,fun i=>match Nat.beq i 3 with|true=>some (fun E D H=>∃ k,aZo.l3.L K k E D H)|false=>none,(fun _=>none)⟩
theorem aZo.ok (x1:Int)(H:Hp)(K:Value→Hp→Prop)(h:aZo x1 H K):Zc prog 135 #[.int .i64 x1] H K:=
 Zr Tryz.func135 rfl (nbl rfl) (Zf (Λ:=(aZo.Λ K)) eZv _ _ _ _ _ (Eq.mp (by kernel_rfl) h) (Zb Za rfl (Zb Za rfl (Zb (Zb Za rfl (Zu (ZZ rfl (fun E D H h=>by
   refine Safe.loop' (aZo.l3.L K) (fun E D H h=>?_) (fun k E D H h=>?_) E D H h
   ·obtain⟨w0,e0,g1⟩:=DG.out h;obtain⟨x2,rfl,g2⟩:=DI.out g1;obtain⟨w3,e3,g3⟩:=DG.out g2;obtain⟨x3,rfl,g4⟩:=DI.out g3;obtain⟨w4,e4,g5⟩:=DG.out g4;obtain⟨x4,rfl,g6⟩:=DI.out g5;obtain⟨rfl,h'⟩:=Zo.out g6;exact h'
   ·obtain⟨x2,e0,g2⟩:=GI h;obtain⟨x3,e3,g4⟩:=GI g2;obtain⟨x4,e4,g6⟩:=GI g4;obtain⟨rfl,h'⟩:=Zo.out g6;exact(Zf (Λ:=(aZo.Λ3 K (aZo.l3 K k))) eZv _ _ [(0,.int .i64 x2),(3,.int .u64 x3),(4,.int .i64 x4)] [] H (Eq.mp (by kernel_rfl) h') (Zb (Zb Za rfl (Zk Zl ZS)) rfl (Zb (Zu Za) rfl Za))).weaken (Ze.cons e0 (Ze.cons e3 (Ze.cons e4 (Ze.nil _)))) (Hp.le_refl _))))) rfl (Zb Za rfl Zy)))))
end W
namespace Shp
open Go Go.Hw W
def db (i:Nat):Nat:=285870213051353865*2^i%18446744073709551616/288230376151711744
def uZG :List Nat:=(List.range 64).map fun j=>((List.range 64).find? fun i=>db i==j).getD 0
def tZ9 :List Value:=uZG.map fun(n:Nat)=>Value.int .u8 (n:Int)
def T64 (H:Hp):Prop:=Cells H (some ⟨0,0,none⟩) tZ9
theorem T64.le {H H':Hp}(h:T64 H)(k:H.le H'):T64 H':=Cells.le h k
theorem tZr :(List.range 64).all (fun k=>aZE .u64 (IntKind.u64.wrap ((aZF .u64 ((2^k:Nat):Int) (IntKind.u64.wrap (0-((2^k:Nat):Int))))*(285870213051353865:Int))) (58:Int)==(db k:Int)&&(decide (db k<64)&&(uZG[db k]? ==some k)))=true:=by decide +kernel
theorem uZq (k:Nat)(hk:k<64)(H:Hp)(hT:T64 H):Zc prog 141 #[.int .u64 ((2^k:Nat):Int)] H (RetE (.int .i64 (k:Int)) H):=by
 apply bZ6.ok;unfold bZ6;have hp:(2:Nat)^k≠0:=Nat.ne_of_gt (Nat.pow_pos (by omega));refine aZm (by omega) ⟨by decide,?_⟩;have ht:=List.all_eq_true.1 tZr k (by simp;omega);simp only[Bool.and_eq_true,beq_iff_eq,decide_eq_true_eq]at ht;obtain⟨h1,h2,h3⟩:=ht;rw[h1];have hv:tZ9[db k]? =some (.int .u8 (k:Int)):=by
  unfold tZ9;rw[List.getElem?_map,h3];rfl
 refine Cells.read hT hv rfl (by decide) ?_;simp only[HV];rw[bZi (by omega)];exact RetE.mk _ _
def lg (n:Int):Option Nat:=(List.range 33).find? fun k=>n==((2^k:Nat):Int)
theorem dZz {n:Int}{k:Nat}(h:lg n=some k):k≤32∧n=((2^k:Nat):Int):=by
 have h1:=List.mem_of_find?_eq_some h;have h2:=List.find?_some h;simp only[beq_iff_eq]at h2;exact⟨by have:=List.mem_range.1 h1;omega,h2⟩
theorem tZA :(List.range 33).all (fun k=>lg ((2^k:Nat):Int)==some k)=true:=by decide +kernel
theorem iZs {k:Nat}(hk:k≤32):lg ((2^k:Nat):Int)=some k:=by
 have:=List.all_eq_true.1 tZA k (List.mem_range.2 (by omega));simpa using this
theorem pow_pos (k:Nat):1≤2^k:=Nat.pow_pos (by omega)
theorem aZW {k m:Nat}(h:k≤m):2^k≤2^m:=Nat.pow_le_pow_right (by omega) h
theorem wZY {n:Int}(h:n<1):lg n=none:=by
 cases e:lg n with
 |none=>rfl
 |some k=>have:=(dZz e).2;have:=pow_pos k;omega
theorem wZX {n:Int}(h:n>4294967296):lg n=none:=by
 cases e:lg n with
 |none=>rfl
 |some k=>
  obtain⟨h1,h2⟩:=dZz e;have:=aZW h1;rw[show 2^32=4294967296 by decide]at this;omega
theorem wZp {m:Nat}(h1:1≤m)(h2:m≤4294967296):m&&&(m-1)=0↔lg (m:Int)≠none:=by
 rw[Nat.and_sub_one_eq_zero_iff_isPowerOfTwo (by omega)];constructor
 ·rintro⟨k,rfl⟩;have hk:k≤32:=by
   apply Nat.le_of_not_lt;intro h;have:=aZW (show 33≤k from h);rw[show 2^33=8589934592 by decide]at this;omega
  rw[iZs hk];simp
 ·intro h;cases e:lg (m:Int)with
  |none=>exact absurd e h
  |some k=>exact⟨k,Int.ofNat_inj.1 (dZz e).2⟩
def bZN (n:Int):Value:=match lg n with|some k=>.tuple #[.int .i64 (k:Int),.bool true]|none=>.tuple #[.int .i64 0,.bool false]
theorem iZn (n:Int)(H:Hp)(hT:T64 H):Zc prog 95 #[.int .i64 n] H (RetE (bZN n) H):=by
 apply gZQ.ok;unfold gZQ;by_cases h1:n<1
 ·refine Zw h1 ?_;unfold bZN;rw[wZY h1];exact RetE.mk _ _
 refine Zm h1 ?_;by_cases h2:n>4294967296
 ·refine Zw h2 ?_;unfold bZN;rw[wZX h2];exact RetE.mk _ _
 refine Zm h2 ?_;obtain⟨m,rfl⟩:=Int.eq_ofNat_of_zero_le (show 0≤n by omega);rw[show((m:Int)-1)=((m-1:Nat):Int) by omega,ZV (by omega) (by omega),Lay.iZL (by omega) (by omega)];have hl:=wZp (m:=m) (by omega) (by omega);unfold bZN;cases e:lg (m:Int)with
 |none=>
  refine ZK (fun h=>?_) (RetE.mk _ _);exact(hl.1 (Int.ofNat_inj.1 h)) e
 |some k=>
  refine ZB (Int.ofNat_inj.2 (hl.2 (by rw[e];simp))) ?_;obtain⟨h3,h4⟩:=dZz e;rw[bZ1 (by omega),h4];refine Zc.use (uZq k (by omega) H hT) ?_
  try simp only[HV]
  exact RetE.mk _ _
def hZN (n:Int):Int:=match lg n with|some k=>(k:Int)|none=>-1
theorem lZF (n:Int)(H:Hp):∀(t k:Nat),k+t=33→(∀ j,j<k→n≠((2^j:Nat):Int))→aZn.l3 (RetE (.int .i64 (hZN n)) H) (t+1) n ((2^k:Nat):Int) (k:Int) H
 |0,k,h,hk=>by
  unfold aZn.l3;refine Zm (by omega) ?_;unfold hZN;cases e:lg n with
  |none=>exact RetE.mk _ _
  |some j=>exact absurd (dZz e).2 (hk j (by have:=(dZz e).1;omega))
 |t+1,k,h,hk=>by
  unfold aZn.l3;refine Zw (by omega) ?_;by_cases e:n=((2^k:Nat):Int)
  ·refine aZb e ?_;unfold hZN;rw[e,iZs (by omega)];exact RetE.mk _ _
  ·refine aZm e ?_;have hp:=aZW (show k≤32 by omega);rw[show 2^32=4294967296 by decide]at hp;rw[show(2:Int)*((2^k:Nat):Int)=((2^(k+1):Nat):Int) by rw[Nat.pow_succ];omega,bZi (by rw[Nat.pow_succ];omega),ZV (x:=(k:Int)+1) (by omega) (by omega)];exact lZF n H t (k+1) (by omega) fun j hj=>by
    by_cases ej:j=k
    ·rw[ej];exact e
    ·exact hk j (by omega)
theorem tZL (n:Int)(H:Hp):Zc prog 33 #[.int .i64 n] H (RetE (.int .i64 (hZN n)) H):=by
 apply aZn.ok;unfold aZn;exact⟨34,lZF n H 33 0 rfl fun j hj=>absurd hj (by omega)⟩
def dZN (r c:Int):Bool:=match lg r,lg c with|some a,some b=>decide (a+b≤32)|_,_=>false
theorem hZn {r c:Int}(h:dZN r c=true):∃ a b:Nat,r=((2^a:Nat):Int)∧c=((2^b:Nat):Int)∧a+b≤32∧lg r=some a∧lg c=some b:=by
 unfold dZN at h;split at h
 ·rename_i a b ha hb
  exact⟨a,b,(dZz ha).2,(dZz hb).2,by simpa using h,ha,hb⟩
 ·cases h
theorem hZ4 {a b:Nat}(h:a+b≤32):dZN ((2^a:Nat):Int) ((2^b:Nat):Int)=true:=by
 unfold dZN;rw[iZs (by omega),iZs (by omega)];simpa using h
theorem bZZ (r c:Int)(H:Hp)(hT:T64 H):Zc prog 168 #[.agg #[.int .i64 r,.int .i64 c]] H (RetE (.bool (dZN r c)) H):=by
 apply Zc.ret;apply fZ9.ok;unfold fZ9;refine(Sep.start H).nw fun b1 H1 hs=>?_
 first|refine hs.ldf 1 rfl rfl ?_|refine hs.ldg 1 rfl rfl ?_
 try simp only[HV]
 refine Zc.use (iZn r H1 (hT.le (hs.ow 0 rfl))) ?_;unfold dZN bZN;cases ea:lg r with
 |none=>
  simp only[HV]
  first|refine hs.ldf 1 rfl rfl ?_|refine hs.ldg 1 rfl rfl ?_
  try simp only[HV]
  refine Zc.use (iZn c H1 (hT.le (hs.ow 0 rfl))) ?_;unfold bZN;cases eb:lg c<;>simp only[HV]<;>exact hs.fin 0 rfl _
 |some a=>
  simp only[HV]
  first|refine hs.ldf 1 rfl rfl ?_|refine hs.ldg 1 rfl rfl ?_
  try simp only[HV]
  refine Zc.use (iZn c H1 (hT.le (hs.ow 0 rfl))) ?_;unfold bZN;cases eb:lg c with
  |none=>simp only[HV];exact hs.fin 0 rfl _
  |some b=>
   simp only[HV];have h1:=(dZz ea).1;have h2:=(dZz eb).1;rw[ZV (by omega) (by omega)];have:decide ((a:Int)+(b:Int)≤32)=decide (a+b≤32):=by
    by_cases h:a+b≤32
    ·rw[decide_eq_true h,decide_eq_true (by omega)]
    ·rw[decide_eq_false h,decide_eq_false (by omega)]
   rw[this];exact hs.fin 0 rfl _
theorem size_le {a b:Nat}(h:a+b≤32):2^a*2^b≤4294967296:=by
 rw[← Nat.pow_add,show 4294967296=2^32 by decide];exact aZW h
def iZb (r c:Int):Int:=if dZN r c=true then r*c else 0
theorem jZQ (r c:Int)(H:Hp)(hT:T64 H):Zc prog 169 #[.agg #[.int .i64 r,.int .i64 c]] H (RetE (.int .i64 (iZb r c)) H):=by
 apply Zc.ret;apply gZa.ok;unfold gZa;refine(Sep.start H).nw fun b1 H1 hs=>?_
 refine hs.ldw 1 rfl rfl ?_;refine Zc.use (bZZ r c H1 (hT.le (hs.ow 0 rfl))) ?_;simp only[HV];unfold iZb;cases e:dZN r c with
 |false=>exact aZN rfl (hs.fin 0 rfl _)
 |true=>
  refine aZu rfl ?_
  first|refine hs.ldf 1 rfl rfl ?_|refine hs.ldg 1 rfl rfl ?_
  try simp only[HV]
  first|refine hs.ldf 1 rfl rfl ?_|refine hs.ldg 1 rfl rfl ?_
  try simp only[HV]
  obtain⟨a,b,rfl,rfl,h,_,_⟩:=hZn e;have:=size_le h;rw[← Int.natCast_mul,bZi (by omega),if_pos trivial];exact hs.fin 0 rfl _
end Shp
namespace W
open Go Go.Hw
theorem dZq :prog.follows .mixedOrders=true:=by kernel_rfl
def gZJ (x1:Int)(H:Hp)(K:Value→Hp→Prop):Prop:=
 K (.bool (decide (x1<18446744069414584321))) H
theorem gZJ.ok (x1:Int)(H:Hp)(K:Value→Hp→Prop)(h:gZJ x1 H K):Zc prog 144 #[.int .u64 x1] H K:=
 Zr Tryz.func144 rfl (nbl rfl) (Zf (Λ:=Zn.none (fun _=>none)) dZq _ _ _ _ _ (Eq.mp (by kernel_rfl) h) (Zt _ _ _ _ _))
def hZe (x1:Int)(H:Hp)(K:Value→Hp→Prop):Prop:=
 HcW 230 #[.int .u64 x1] H fun x2 H1=>BIf (x2==0) (K (.tuple #[.int .u64 0,.int .i64 13]) H1) (HcW 231 #[.int .u64 x1,.int .u64 18446744069414584319] H1 fun x3 H2=>K (.tuple #[.int .u64 x3,.int .i64 0]) H2)
theorem hZe.ok (x1:Int)(H:Hp)(K:Value→Hp→Prop)(h:hZe x1 H K):Zc prog 207 #[.int .u64 x1] H K:=
 Zr Tryz.func207 rfl (nbl rfl) (Zf (Λ:=Zn.none (fun _=>none)) dZq _ _ _ _ _ (Eq.mp (by kernel_rfl) h) (Zt _ _ _ _ _))
def hZZ (x1:Int)(H:Hp)(K:Value→Hp→Prop):Prop:=
 BIf (decide (x1≥18446744069414584321)) (K (.int .u64 (IntKind.u64.wrap (x1-18446744069414584321))) H) (K (.int .u64 x1) H)
theorem hZZ.ok (x1:Int)(H:Hp)(K:Value→Hp→Prop)(h:hZZ x1 H K):Zc prog 230 #[.int .u64 x1] H K:=
 Zr Tryz.func230 rfl (nbl rfl) (Zf (Λ:=Zn.none (fun _=>none)) dZq _ _ _ _ _ (Eq.mp (by kernel_rfl) h) (Zt _ _ _ _ _))
def bZk.l2 (K:Value→Hp→Prop):Nat→Int→Int→Int→Hp→Prop
 |0,_,_,_,_=>False
 |k+1,x4,x5,x6,H=>
  let R2:=bZk.l2 K k
  BIf (decide (x4>0)) (BIf ((aZF .u64 x4 1)==1) (HcW 243 #[.int .u64 x5,.int .u64 x6] H fun x7 H2=>HcW 243 #[.int .u64 x6,.int .u64 x6] H2 fun x8 H3=>(0≤(1:Int)∧R2 (aZE .u64 x4 1) x7 x8 H3)) (HcW 243 #[.int .u64 x6,.int .u64 x6] H fun x9 H4=>(0≤(1:Int)∧R2 (aZE .u64 x4 1) x5 x9 H4))) (K (.int .u64 x5) H)
def bZk (x1:Int)(x2:Int)(H:Hp)(K:Value→Hp→Prop):Prop:=
 HcW 230 #[.int .u64 x1] H fun x3 H1=>(∃ k,bZk.l2 K k x2 1 x3 H1)
def bZk.l2.L (K:Value→Hp→Prop)(k:Nat):Mid:=fun E D H=>
 eI E 1 .u64 fun x4=>eI E 5 .u64 fun x5=>eI E 6 .u64 fun x6=>Zo D (bZk.l2 K k x4 x5 x6 H)
def bZk.Λ2 (_:Value→Hp→Prop)(_R2:Int→Int→Int→Hp→Prop):Zn:=Zn.none (fun _=>none)
def bZk.Λ (K:Value→Hp→Prop):Zn:=⟨fun i=>none,fun i=>match Nat.beq i 2 with|true=>some (fun E D H=>∃ k,bZk.l2.L K k E D H)|false=>none,(fun _=>none)⟩
theorem bZk.ok (x1:Int)(x2:Int)(H:Hp)(K:Value→Hp→Prop)(h:bZk x1 x2 H K):Zc prog 231 #[.int .u64 x1,.int .u64 x2] H K:=
 Zr Tryz.func231 rfl (nbl rfl) (Zf (Λ:=(bZk.Λ K)) dZq _ _ _ _ _ (Eq.mp (by kernel_rfl) h) (Zb Za rfl (Zb Za rfl (Zb (Zu (ZZ rfl (fun E D H h=>by
   refine Safe.loop' (bZk.l2.L K) (fun E D H h=>?_) (fun k E D H h=>?_) E D H h
   ·obtain⟨w1,e1,g1⟩:=DG.out h;obtain⟨x4,rfl,g2⟩:=DI.out g1;obtain⟨w5,e5,g3⟩:=DG.out g2;obtain⟨x5,rfl,g4⟩:=DI.out g3;obtain⟨w6,e6,g5⟩:=DG.out g4;obtain⟨x6,rfl,g6⟩:=DI.out g5;obtain⟨rfl,h'⟩:=Zo.out g6;exact h'
   ·obtain⟨x4,e1,g2⟩:=GI h;obtain⟨x5,e5,g4⟩:=GI g2;obtain⟨x6,e6,g6⟩:=GI g4;obtain⟨rfl,h'⟩:=Zo.out g6;exact(Zf (Λ:=(bZk.Λ2 K (bZk.l2 K k))) dZq _ _ [(1,.int .u64 x4),(5,.int .u64 x5),(6,.int .u64 x6)] [] H (Eq.mp (by kernel_rfl) h') (Zb (Zb Za rfl (Zk Zl ZS)) rfl (Zb (Zu (Zb (Zb Za rfl (Zk Za Zl)) rfl Za)) rfl Za))).weaken (Ze.cons e1 (Ze.cons e5 (Ze.cons e6 (Ze.nil _)))) (Hp.le_refl _)))) rfl (Zb Za rfl Zy)))))
def hZf (x1:Int)(x2:Int)(H:Hp)(K:Value→Hp→Prop):Prop:=
 HcA 254 #[.int .u64 x1,.int .u64 x2] H fun y1 H1=>HcW 253 #[.agg y1] H1 fun x3 H2=>K (.int .u64 x3) H2
theorem hZf.ok (x1:Int)(x2:Int)(H:Hp)(K:Value→Hp→Prop)(h:hZf x1 x2 H K):Zc prog 243 #[.int .u64 x1,.int .u64 x2] H K:=
 Zr Tryz.func243 rfl (nbl rfl) (Zf (Λ:=Zn.none (fun _=>none)) dZq _ _ _ _ _ (Eq.mp (by kernel_rfl) h) (Zt _ _ _ _ _))
def bZw.j5 (K:Value→Hp→Prop)(x7:Int)(x8:Int)(H:Hp):Prop:=
 BIf (decide ((IntKind.u64.wrap (x8+(IntKind.u64.wrap (x7*4294967295))))<(IntKind.u64.wrap (x7*4294967295)))) (HcW 230 #[.int .u64 (IntKind.u64.wrap ((IntKind.u64.wrap (x8+(IntKind.u64.wrap (x7*4294967295))))+4294967295))] H fun x9 H2=>K (.int .u64 x9) H2) (HcW 230 #[.int .u64 (IntKind.u64.wrap (x8+(IntKind.u64.wrap (x7*4294967295))))] H fun x10 H3=>K (.int .u64 x10) H3)
def bZw (x1:Int)(x2:Int)(H:Hp)(K:Value→Hp→Prop):Prop:=
 Nw H (.obj (.cells #[.int .u64 x1,.int .u64 x2] 343)) fun b1 H1=>LeW H1 ((⟨b1,0,none⟩:Addr).add 0) fun x3=>(0≤(32:Int)∧LeW H1 ((⟨b1,0,none⟩:Addr).add 0) fun x4=>LeW H1 ((⟨b1,0,none⟩:Addr).add 1) fun x5=>LeW H1 ((⟨b1,0,none⟩:Addr).add 1) fun x6=>BIf (decide (x6<(aZE .u64 x3 32))) (bZw.j5 K (aZF .u64 x4 4294967295) (IntKind.u64.wrap ((IntKind.u64.wrap (x5-(aZE .u64 x3 32)))-4294967295)) H1) (bZw.j5 K (aZF .u64 x4 4294967295) (IntKind.u64.wrap (x5-(aZE .u64 x3 32))) H1))
def bZw.Λ (K:Value→Hp→Prop):Zn:=⟨fun i=>match Nat.beq i 5 with|true=>some (fun E D H=>eI E 4 .u64 fun x7=>eI E 5 .u64 fun x8=>Zo D (bZw.j5 K x7 x8 H))|false=>none,fun i=>none,(fun _=>none)⟩
theorem bZw.ok (x1:Int)(x2:Int)(H:Hp)(K:Value→Hp→Prop)(h:bZw x1 x2 H K):Zc prog 253 #[.agg #[.int .u64 x1,.int .u64 x2]] H K:=
 Zr Tryz.func253 rfl (nbl rfl) (Zf (Λ:=(bZw.Λ K)) dZq _ _ _ _ _ (Eq.mp (by kernel_rfl) h) (Zb Za rfl (Zb Za rfl (Zb Za rfl (aZH (Zb Za rfl (Zk Za Zl)) rfl (fun E D H h=>by
   obtain⟨x7,e4,g2⟩:=GI h;obtain⟨x8,e5,g4⟩:=GI g2;obtain⟨rfl,h'⟩:=Zo.out g4;exact(Zf (Λ:=(bZw.Λ K)) dZq _ _ [(4,.int .u64 x7),(5,.int .u64 x8)] [] H (Eq.mp (by kernel_rfl) h') (Zb Za rfl (Zb Za rfl (Zb (Zb Za rfl (Zk Za Zl)) rfl (Zb Za rfl Zy))))).weaken (Ze.cons e4 (Ze.cons e5 (Ze.nil _))) (Hp.le_refl _)))))))
def hZd (x1:Int)(x2:Int)(H:Hp)(K:Value→Hp→Prop):Prop:=
 HcW 230 #[.int .u64 x1] H fun x3 H1=>HcW 230 #[.int .u64 x2] H1 fun x4 H2=>Hz 272 #[.agg #[.int .u64 0,.int .u64 x3],.agg #[.int .u64 0,.int .u64 x4]] H2 fun v3 H3=>wZa v3 fun y1 x5=>(Nw H3 (.obj (.cells #[.int .u64 0,.int .u64 0] 343)) fun b1 H4=>StA H4 ⟨b1,0,none⟩ y1 2 fun H5=>LdA H5 ⟨b1,0,none⟩ 2 fun l4=>HcW 253 #[.agg l4.toArray] H5 fun x6 H6=>K (.int .u64 x6) H6)
theorem hZd.ok (x1:Int)(x2:Int)(H:Hp)(K:Value→Hp→Prop)(h:hZd x1 x2 H K):Zc prog 268 #[.int .u64 x1,.int .u64 x2] H K:=
 Zr Tryz.func268 rfl (nbl rfl) (Zf (Λ:=Zn.none (fun _=>none)) dZq _ _ _ _ _ (Eq.mp (by kernel_rfl) h) (Zt _ _ _ _ _))
def hZh (x1:Int)(x2:Int)(H:Hp)(K:Value→Hp→Prop):Prop:=
 HcW 273 #[.int .u64 x2] H fun x3 H1=>HcW 268 #[.int .u64 x1,.int .u64 x3] H1 fun x4 H2=>K (.int .u64 x4) H2
theorem hZh.ok (x1:Int)(x2:Int)(H:Hp)(K:Value→Hp→Prop)(h:hZh x1 x2 H K):Zc prog 269 #[.int .u64 x1,.int .u64 x2] H K:=
 Zr Tryz.func269 rfl (nbl rfl) (Zf (Λ:=Zn.none (fun _=>none)) dZq _ _ _ _ _ (Eq.mp (by kernel_rfl) h) (Zt _ _ _ _ _))
def hZg (x1:Int)(H:Hp)(K:Value→Hp→Prop):Prop:=
 HcW 230 #[.int .u64 x1] H fun x2 H1=>BIf (x2==0) (K (.int .u64 0) H1) (K (.int .u64 (IntKind.u64.wrap (18446744069414584321-x2))) H1)
theorem hZg.ok (x1:Int)(H:Hp)(K:Value→Hp→Prop)(h:hZg x1 H K):Zc prog 273 #[.int .u64 x1] H K:=
 Zr Tryz.func273 rfl (nbl rfl) (Zf (Λ:=Zn.none (fun _=>none)) dZq _ _ _ _ _ (Eq.mp (by kernel_rfl) h) (Zt _ _ _ _ _))
theorem oZr :prog.follows .mixedOrders=true:=by kernel_rfl
def hZm (x1:Int)(x2:Int)(H:Hp)(K:Value→Hp→Prop):Prop:=
 Nw H (.obj (.cells #[.int .u64 0,.int .u64 0] 343)) fun b1 H1=>Hz 266 #[.int .u64 x1,.int .u64 x2] H1 fun v1 H2=>nZ2 v1 fun x3 x4=>(StA H2 ⟨b1,0,none⟩ #[.int .u64 x3,.int .u64 x4] 2 fun H3=>LdA H3 ⟨b1,0,none⟩ 2 fun l4=>K (.agg l4.toArray) H3)
theorem hZm.ok (x1:Int)(x2:Int)(H:Hp)(K:Value→Hp→Prop)(h:hZm x1 x2 H K):Zc prog 254 #[.int .u64 x1,.int .u64 x2] H K:=
 Zr Tryz.func254 rfl (nbl rfl) (Zf (Λ:=Zn.none (fun _=>none)) oZr _ _ _ _ _ (Eq.mp (by kernel_rfl) h) (Zt _ _ _ _ _))
def hZl (x1:Int)(x2:Int)(x3:Int)(x4:Int)(H:Hp)(K:Value→Hp→Prop):Prop:=
 Nw H (.obj (.cells #[.int .u64 x1,.int .u64 x2] 343)) fun b1 H1=>Nw H1 (.obj (.cells #[.int .u64 x3,.int .u64 x4] 343)) fun b2 H2=>Nw H2 (.obj (.cells #[.int .u64 0,.int .u64 0] 343)) fun b3 H3=>LeW H3 ((⟨b1,0,none⟩:Addr).add 1) fun x5=>LeW H3 ((⟨b2,0,none⟩:Addr).add 1) fun x6=>ExC prog 275 #[.int .u64 x5,.int .u64 x6,.int .u64 0] H3 fun v3 H4=>nZ2 v3 fun x7 x8=>(St H4 (((⟨b3,0,none⟩:Addr).add 1).add 0) (.int .u64 x7) fun H5=>LeW H5 ((⟨b1,0,none⟩:Addr).add 0) fun x9=>LeW H5 ((⟨b2,0,none⟩:Addr).add 0) fun x10=>ExC prog 275 #[.int .u64 x9,.int .u64 x10,.int .u64 x8] H5 fun v8 H6=>nZ2 v8 fun x11 x12=>(St H6 (((⟨b3,0,none⟩:Addr).add 0).add 0) (.int .u64 x11) fun H7=>LdA H7 ⟨b3,0,none⟩ 2 fun l7=>StA H7 ⟨b3,0,none⟩ l7.toArray 2 fun H8=>LdA H8 ⟨b3,0,none⟩ 2 fun l8=>K (.tuple #[.agg l8.toArray,.int .u64 x12]) H8))
theorem hZl.ok (x1:Int)(x2:Int)(x3:Int)(x4:Int)(H:Hp)(K:Value→Hp→Prop)(h:hZl x1 x2 x3 x4 H K):Zc prog 272 #[.agg #[.int .u64 x1,.int .u64 x2],.agg #[.int .u64 x3,.int .u64 x4]] H K:=
 Zr Tryz.func272 rfl (nbl rfl) (Zf (Λ:=Zn.none (fun _=>none)) oZr _ _ _ _ _ (Eq.mp (by kernel_rfl) h) (Zt _ _ _ _ _))
theorem cZH :prog.follows .mixedOrders=true:=by kernel_rfl
def dZB (x1:Int)(x2:Int)(H:Hp)(K:Value→Hp→Prop):Prop:=
 HcW 136 #[.int .u64 x1] H fun x3 H1=>HcW 136 #[.int .u64 x2] H1 fun x4 H2=>BIf (decide (x3≥(IntKind.u64.wrap (18446744069414584321-x4)))) (K (.int .u64 (IntKind.u64.wrap (x3-(IntKind.u64.wrap (18446744069414584321-x4))))) H2) (K (.int .u64 (IntKind.u64.wrap (x3+x4))) H2)
theorem dZB.ok (x1:Int)(x2:Int)(H:Hp)(K:Value→Hp→Prop)(h:dZB x1 x2 H K):Zc prog 86 #[.int .u64 x1,.int .u64 x2] H K:=
 Zr Tryz.func86 rfl (nbl rfl) (Zf (Λ:=Zn.none (fun _=>none)) cZH _ _ _ _ _ (Eq.mp (by kernel_rfl) h) (Zt _ _ _ _ _))
def aZv.l3 (K:Value→Hp→Prop):Nat→Int→Int→Int→Hp→Prop
 |0,_,_,_,_=>False
 |k+1,x4,x5,x6,H=>
  let R3:=aZv.l3 K k
  BIf (decide (x5>0)) (((2:Int)≠0∧IntKind.u64=IntKind.u64∧BIf ((Int.tmod x5 2)==1) (HcW 86 #[.int .u64 x6,.int .u64 x4] H fun x7 H2=>HcW 86 #[.int .u64 x4,.int .u64 x4] H2 fun x8 H3=>((2:Int)≠0∧IntKind.u64=IntKind.u64∧R3 x8 (IntKind.u64.wrap (Int.tdiv x5 2)) x7 H3)) (HcW 86 #[.int .u64 x4,.int .u64 x4] H fun x9 H4=>((2:Int)≠0∧IntKind.u64=IntKind.u64∧R3 x9 (IntKind.u64.wrap (Int.tdiv x5 2)) x6 H4)))) (K (.int .u64 x6) H)
def aZv (x1:Int)(x2:Int)(H:Hp)(K:Value→Hp→Prop):Prop:=
 HcW 136 #[.int .u64 x1] H fun x3 H1=>(∃ k,aZv.l3 K k x3 x2 0 H1)
def aZv.l3.L (K:Value→Hp→Prop)(k:Nat):Mid:=fun E D H=>
 eI E 0 .u64 fun x4=>eI E 1 .u64 fun x5=>eI E 5 .u64 fun x6=>Zo D (aZv.l3 K k x4 x5 x6 H)
def aZv.Λ3 (_:Value→Hp→Prop)(_R3:Int→Int→Int→Hp→Prop):Zn:=Zn.none (fun _=>none)
def aZv.Λ (K:Value→Hp→Prop):Zn:=⟨fun i=>none,fun i=>match Nat.beq i 3 with|true=>some (fun E D H=>∃ k,aZv.l3.L K k E D H)|false=>none,(fun _=>none)⟩
theorem aZv.ok (x1:Int)(x2:Int)(H:Hp)(K:Value→Hp→Prop)(h:aZv x1 x2 H K):Zc prog 87 #[.int .u64 x1,.int .u64 x2] H K:=
 Zr Tryz.func87 rfl (nbl rfl) (Zf (Λ:=(aZv.Λ K)) cZH _ _ _ _ _ (Eq.mp (by kernel_rfl) h) (Zb Za rfl (Zb Za rfl (Zb Za rfl (Zb (Zu (ZZ rfl (fun E D H h=>by
   refine Safe.loop' (aZv.l3.L K) (fun E D H h=>?_) (fun k E D H h=>?_) E D H h
   ·obtain⟨w0,e0,g1⟩:=DG.out h;obtain⟨x4,rfl,g2⟩:=DI.out g1;obtain⟨w1,e1,g3⟩:=DG.out g2;obtain⟨x5,rfl,g4⟩:=DI.out g3;obtain⟨w5,e5,g5⟩:=DG.out g4;obtain⟨x6,rfl,g6⟩:=DI.out g5;obtain⟨rfl,h'⟩:=Zo.out g6;exact h'
   ·obtain⟨x4,e0,g2⟩:=GI h;obtain⟨x5,e1,g4⟩:=GI g2;obtain⟨x6,e5,g6⟩:=GI g4;obtain⟨rfl,h'⟩:=Zo.out g6;exact(Zf (Λ:=(aZv.Λ3 K (aZv.l3 K k))) cZH _ _ [(0,.int .u64 x4),(1,.int .u64 x5),(5,.int .u64 x6)] [] H (Eq.mp (by kernel_rfl) h') (Zb (Zb Za rfl (Zk Zl ZS)) rfl (Zu (Zb (Zb Za rfl (Zk Za Zl)) rfl (Zb Za rfl Za))))).weaken (Ze.cons e0 (Ze.cons e1 (Ze.cons e5 (Ze.nil _)))) (Hp.le_refl _)))) rfl (Zb Za rfl Zy))))))
def aZw.l3 (K:Value→Hp→Prop):Nat→Int→Int→Int→Hp→Prop
 |0,_,_,_,_=>False
 |k+1,x4,x5,x6,H=>
  let R3:=aZw.l3 K k
  BIf (decide (x5>0)) (((2:Int)≠0∧IntKind.u64=IntKind.u64∧BIf ((Int.tmod x5 2)==1) (HcW 87 #[.int .u64 x6,.int .u64 x4] H fun x7 H2=>HcW 87 #[.int .u64 x4,.int .u64 x4] H2 fun x8 H3=>((2:Int)≠0∧IntKind.u64=IntKind.u64∧R3 x8 (IntKind.u64.wrap (Int.tdiv x5 2)) x7 H3)) (HcW 87 #[.int .u64 x4,.int .u64 x4] H fun x9 H4=>((2:Int)≠0∧IntKind.u64=IntKind.u64∧R3 x9 (IntKind.u64.wrap (Int.tdiv x5 2)) x6 H4)))) (K (.int .u64 x6) H)
def aZw (x1:Int)(x2:Int)(H:Hp)(K:Value→Hp→Prop):Prop:=
 HcW 136 #[.int .u64 x1] H fun x3 H1=>(∃ k,aZw.l3 K k x3 x2 1 H1)
def aZw.l3.L (K:Value→Hp→Prop)(k:Nat):Mid:=fun E D H=>
 eI E 0 .u64 fun x4=>eI E 1 .u64 fun x5=>eI E 5 .u64 fun x6=>Zo D (aZw.l3 K k x4 x5 x6 H)
def aZw.Λ3 (_:Value→Hp→Prop)(_R3:Int→Int→Int→Hp→Prop):Zn:=Zn.none (fun _=>none)
def aZw.Λ (K:Value→Hp→Prop):Zn:=⟨fun i=>none,fun i=>match Nat.beq i 3 with|true=>some (fun E D H=>∃ k,aZw.l3.L K k E D H)|false=>none,(fun _=>none)⟩
theorem aZw.ok (x1:Int)(x2:Int)(H:Hp)(K:Value→Hp→Prop)(h:aZw x1 x2 H K):Zc prog 88 #[.int .u64 x1,.int .u64 x2] H K:=
 Zr Tryz.func88 rfl (nbl rfl) (Zf (Λ:=(aZw.Λ K)) cZH _ _ _ _ _ (Eq.mp (by kernel_rfl) h) (Zb Za rfl (Zb Za rfl (Zb Za rfl (Zb (Zu (ZZ rfl (fun E D H h=>by
   refine Safe.loop' (aZw.l3.L K) (fun E D H h=>?_) (fun k E D H h=>?_) E D H h
   ·obtain⟨w0,e0,g1⟩:=DG.out h;obtain⟨x4,rfl,g2⟩:=DI.out g1;obtain⟨w1,e1,g3⟩:=DG.out g2;obtain⟨x5,rfl,g4⟩:=DI.out g3;obtain⟨w5,e5,g5⟩:=DG.out g4;obtain⟨x6,rfl,g6⟩:=DI.out g5;obtain⟨rfl,h'⟩:=Zo.out g6;exact h'
   ·obtain⟨x4,e0,g2⟩:=GI h;obtain⟨x5,e1,g4⟩:=GI g2;obtain⟨x6,e5,g6⟩:=GI g4;obtain⟨rfl,h'⟩:=Zo.out g6;exact(Zf (Λ:=(aZw.Λ3 K (aZw.l3 K k))) cZH _ _ [(0,.int .u64 x4),(1,.int .u64 x5),(5,.int .u64 x6)] [] H (Eq.mp (by kernel_rfl) h') (Zb (Zb Za rfl (Zk Zl ZS)) rfl (Zu (Zb (Zb Za rfl (Zk Za Zl)) rfl (Zb Za rfl Za))))).weaken (Ze.cons e0 (Ze.cons e1 (Ze.cons e5 (Ze.nil _)))) (Hp.le_refl _)))) rfl (Zb Za rfl Zy))))))
def dZX (x1:Int)(H:Hp)(K:Value→Hp→Prop):Prop:=
 ((18446744069414584321:Int)≠0∧IntKind.u64=IntKind.u64∧K (.int .u64 (Int.tmod x1 18446744069414584321)) H)
theorem dZX.ok (x1:Int)(H:Hp)(K:Value→Hp→Prop)(h:dZX x1 H K):Zc prog 136 #[.int .u64 x1] H K:=
 Zr Tryz.func136 rfl (nbl rfl) (Zf (Λ:=Zn.none (fun _=>none)) cZH _ _ _ _ _ (Eq.mp (by kernel_rfl) h) (Zt _ _ _ _ _))
end W
namespace Gol
open Go Go.Hw W
theorem mZs (x y c:Nat)(hc:c≤1){H:Hp}{K:Value→Hp→Prop}(k:K (.tuple #[.int .u64 (((x+y+c)%18446744073709551616:Nat):Int),.int .u64 (((x+y+c)/18446744073709551616:Nat):Int)]) H):
  ExC prog 275 #[.int .u64 (x:Int),.int .u64 (y:Int),.int .u64 (c:Int)] H K:=fun H0 w0 w hA=>by
 refine⟨.value _,H,w,?_,k,hA⟩;rw[run_callFunc_extern Tryz.func275 (by kernel_rfl) (by kernel_rfl) (by kernel_rfl) (e:=add64Entry) (by kernel_rfl),run_add64 (x:Int) (y:Int) (c:Int) (by omega) (by omega) (by omega) (by omega)];simp only[Result.andThen];congr 5<;>omega
theorem nZE {x:Nat}(hx:x<2^64):aZF .u64 (x:Int) 4294967295=((x%4294967296:Nat):Int):=by
 rw[show(4294967295:Int)=((4294967295:Nat):Int)from rfl,lZ3 hx (by omega),show 4294967295=2^32-1 from rfl,Nat.and_two_pow_sub_one_eq_mod]
theorem gZZ {x:Nat}:aZE .u64 (x:Int) 32=((x/4294967296:Nat):Int):=by
 rw[hZP (k:=.u64) (a:=x) (i:=32) (n:=32) rfl (by decide)]
theorem qZB {x y:Nat}(hx:x<4294967296)(hy:y<4294967296):IntKind.u64.wrap ((x:Int)*(y:Int))=((x*y:Nat):Int):=by
 have:x*y≤4294967295*4294967295:=Nat.mul_le_mul (by omega) (by omega);rw[wZJ,Nat.mod_eq_of_lt (by omega)]
theorem lZ2 {x y:Nat}(h:x+y<18446744073709551616):IntKind.u64.wrap ((x:Int)+(y:Int))=((x+y:Nat):Int):=by
 rw[wZI,Nat.mod_eq_of_lt (by omega)]
theorem sZ9 {a b:Nat}(ha:a<2^64)(hb:b<2^64)(H:Hp):Zc prog 266 #[.int .u64 (a:Int),.int .u64 (b:Int)] H (RetE (.tuple #[.int .u64 ((a*b/18446744073709551616:Nat):Int),.int .u64 ((a*b%18446744073709551616:Nat):Int)]) H):=by
 apply dZ6.ok;unfold dZ6;refine⟨by decide,by decide,by decide,by decide,by decide,?_⟩;rw[wZJ a b,gZZ (x:=a),gZZ (x:=b),nZE ha,nZE hb];have ea:a=4294967296*(a/4294967296)+a%4294967296:=by omega
 have eb:b=4294967296*(b/4294967296)+b%4294967296:=by omega
 have h1:a/4294967296<4294967296:=by omega
 have h2:b/4294967296<4294967296:=by omega
 have h3:a%4294967296<4294967296:=by omega
 have h4:b%4294967296<4294967296:=by omega
 have hab:a*b=18446744073709551616*((a/4294967296)*(b/4294967296))+4294967296*((a/4294967296)*(b%4294967296))+4294967296*((a%4294967296)*(b/4294967296))+(a%4294967296)*(b%4294967296):=by
  conv=>lhs;rw[ea,eb]
  rw[Nat.add_mul,Nat.mul_add,Nat.mul_add];rw[show 4294967296*(a/4294967296)*(4294967296*(b/4294967296))=18446744073709551616*((a/4294967296)*(b/4294967296)) by rw[Nat.mul_mul_mul_comm],
   show 4294967296*(a/4294967296)*(b%4294967296)=4294967296*((a/4294967296)*(b%4294967296)) by rw[Nat.mul_assoc],
   show a%4294967296*(4294967296*(b/4294967296))=4294967296*((a%4294967296)*(b/4294967296)) by rw[Nat.mul_left_comm]]
  omega
 rw[qZB h1 h2,qZB h1 h4,qZB h3 h4,qZB h3 h2];have k1:(a/4294967296)*(b/4294967296)≤4294967295*4294967295:=Nat.mul_le_mul (by omega) (by omega);have k2:(a/4294967296)*(b%4294967296)≤4294967295*4294967295:=Nat.mul_le_mul (by omega) (by omega);have k3:(a%4294967296)*(b/4294967296)≤4294967295*4294967295:=Nat.mul_le_mul (by omega) (by omega);have k4:(a%4294967296)*(b%4294967296)≤4294967295*4294967295:=Nat.mul_le_mul (by omega) (by omega);clear ea eb;generalize(a/4294967296)*(b/4294967296)=p11 at*;generalize(a/4294967296)*(b%4294967296)=p10 at*;generalize(a%4294967296)*(b/4294967296)=p01 at*;generalize(a%4294967296)*(b%4294967296)=p00 at*;rw[gZZ (x:=p00),lZ2 (x:=p10) (y:=p00/4294967296) (by omega),nZE (by omega),lZ2 (by omega),gZZ,gZZ,lZ2 (by omega),lZ2 (by omega)];refine⟨?_,rfl⟩;rw[hab];have:p11+(p10+p00/4294967296)/4294967296+((p10+p00/4294967296)%4294967296+p01)/4294967296=(18446744073709551616*p11+4294967296*p10+4294967296*p01+p00)/18446744073709551616:=by omega
 rw[this]
theorem eZJ {a:Nat}(ha:a<2^64)(H:Hp):Zc prog 230 #[.int .u64 (a:Int)] H (RetE (.int .u64 ((a%18446744069414584321:Nat):Int)) H):=by
 apply hZZ.ok;unfold hZZ;by_cases h:a≥18446744069414584321
 ·refine Zw (by omega) ?_;rw[dZj (by omega) (by omega)];refine⟨?_,rfl⟩;have:(a:Int)-18446744069414584321=((a%18446744069414584321:Nat):Int):=by omega
  rw[this]
 ·refine Zm (by omega) ⟨?_,rfl⟩;rw[Nat.mod_eq_of_lt (by omega)]
theorem mZv {mid t:Nat}(hm:mid<4294967296)(ht:t<18446744073709551616){H:Hp}{K:Value→Hp→Prop}(k:K (.int .u64 (((t+mid*4294967295)%18446744069414584321:Nat):Int)) H):bZw.j5 K (mid:Int) (t:Int) H:=by
 unfold bZw.j5;have em:IntKind.u64.wrap ((mid:Int)*4294967295)=((mid*4294967295:Nat):Int):=by
  rw[dZj (by omega) (by omega)];omega
 rw[em];by_cases h:t+mid*4294967295<18446744073709551616
 ·rw[lZ2 h];refine Zm (by omega) ?_;refine Zc.use (eZJ (by omega) H) ?_;simp only[HV];exact k
 ·have e1:IntKind.u64.wrap ((t:Int)+((mid*4294967295:Nat):Int))=((t+mid*4294967295-18446744073709551616:Nat):Int):=by
   rw[wZI];omega
  rw[e1];refine Zw (by omega) ?_;rw[show(4294967295:Int)=((4294967295:Nat):Int)from rfl,lZ2 (by omega)];refine Zc.use (eZJ (by omega) H) ?_;simp only[HV];have:(t+mid*4294967295-18446744073709551616+4294967295)%18446744069414584321=(t+mid*4294967295)%18446744069414584321:=by omega
  rw[this];exact k
theorem mZw {hi lo:Nat}(hh:hi<2^64)(hl:lo<2^64)(H:Hp):Zc prog 253 #[.agg #[.int .u64 (hi:Int),.int .u64 (lo:Int)]] H (RetE (.int .u64 (((hi*18446744073709551616+lo)%18446744069414584321:Nat):Int)) H):=Zc.ret (by
 apply bZw.ok;unfold bZw;refine(Sep.start H).nw fun b1 H1 hs=>?_
 first|refine hs.ldf 1 rfl rfl ?_|refine hs.ldg 1 rfl rfl ?_
 try simp only[HV]
 refine⟨by decide,?_⟩
 first|refine hs.ldf 1 rfl rfl ?_|refine hs.ldg 1 rfl rfl ?_
 try simp only[HV]
 first|refine hs.ldf 1 rfl rfl ?_|refine hs.ldg 1 rfl rfl ?_
 try simp only[HV]
 first|refine hs.ldf 1 rfl rfl ?_|refine hs.ldg 1 rfl rfl ?_
 try simp only[HV]
 rw[gZZ,nZE hh];by_cases h:lo<hi/4294967296
 ·refine Zw (by omega) ?_;have e1:IntKind.u64.wrap (IntKind.u64.wrap ((lo:Int)-((hi/4294967296:Nat):Int))-4294967295)=((lo+18446744069414584321-hi/4294967296:Nat):Int):=by
   rw[hZT,hZT];omega
  rw[e1];refine mZv (by omega) (by omega) ?_;have:(lo+18446744069414584321-hi/4294967296+hi%4294967296*4294967295)%18446744069414584321=(hi*18446744073709551616+lo)%18446744069414584321:=by omega
  rw[this];exact hs.fin 0 rfl _
 ·refine Zm (by omega) ?_;have e1:IntKind.u64.wrap ((lo:Int)-((hi/4294967296:Nat):Int))=((lo-hi/4294967296:Nat):Int):=by
   rw[hZT];omega
  rw[e1];refine mZv (by omega) (by omega) ?_;have:(lo-hi/4294967296+hi%4294967296*4294967295)%18446744069414584321=(hi*18446744073709551616+lo)%18446744069414584321:=by omega
  rw[this];exact hs.fin 0 rfl _)
theorem vZL {a b:Nat}(ha:a<2^64)(hb:b<2^64)(H:Hp):Zc prog 254 #[.int .u64 (a:Int),.int .u64 (b:Int)] H (RetE (.agg #[.int .u64 ((a*b/18446744073709551616:Nat):Int),.int .u64 ((a*b%18446744073709551616:Nat):Int)]) H):=Zc.ret (by
 apply hZm.ok;unfold hZm;refine(Sep.start H).nw fun b1 H1 hs=>?_
 refine Zc.use (sZ9 ha hb H1) ?_;simp only[HV];refine hs.stw 1 rfl rfl rfl rfl fun H1 hs=>?_
 refine hs.ldw 1 rfl rfl ?_;exact hs.fin 0 rfl _)
theorem gZ1 {a b:Nat}(ha:a<2^64)(hb:b<2^64)(H:Hp):Zc prog 243 #[.int .u64 (a:Int),.int .u64 (b:Int)] H (RetE (.int .u64 ((a*b%18446744069414584321:Nat):Int)) H):=by
 apply hZf.ok;unfold hZf;refine Zc.use (vZL ha hb H) ?_;simp only[HV];have hab:a*b≤18446744073709551615*18446744073709551615:=Nat.mul_le_mul (by omega) (by omega);generalize a*b=n at*;refine Zc.use (mZw (hi:=n/18446744073709551616) (lo:=n%18446744073709551616) (by omega) (by omega) H) ?_;simp only[HV];have:n/18446744073709551616*18446744073709551616+n%18446744073709551616=n:=by omega
 rw[this];exact RetE.mk _ _
theorem vZK {a b:Nat}(ha:a<2^64)(hb:b<2^64)(H:Hp):Zc prog 272 #[.agg #[.int .u64 0,.int .u64 (a:Int)],.agg #[.int .u64 0,.int .u64 (b:Int)]] H (RetE (.tuple #[.agg #[.int .u64 (((a+b)/18446744073709551616:Nat):Int),.int .u64 (((a+b)%18446744073709551616:Nat):Int)],.int .u64 0]) H):=Zc.ret (by
 apply hZl.ok;unfold hZl;refine(Sep.start H).nw fun b1 H1 hs=>?_
 refine hs.nw fun b2 H1 hs=>?_
 refine hs.nw fun b3 H1 hs=>?_
 first|refine hs.ldf 1 rfl rfl ?_|refine hs.ldg 1 rfl rfl ?_
 try simp only[HV]
 first|refine hs.ldf 2 rfl rfl ?_|refine hs.ldg 2 rfl rfl ?_
 try simp only[HV]
 refine mZs a b 0 (by omega) ?_;simp only[HV];refine hs.stf 3 rfl (Nat.lt_of_sub_eq_succ rfl) rfl fun H1 hs=>?_
 first|refine hs.ldf 1 rfl rfl ?_|refine hs.ldg 1 rfl rfl ?_
 try simp only[HV]
 first|refine hs.ldf 2 rfl rfl ?_|refine hs.ldg 2 rfl rfl ?_
 try simp only[HV]
 refine mZs 0 0 ((a+b+0)/18446744073709551616) (by omega) ?_;simp only[HV];refine hs.stf 3 rfl (Nat.lt_of_sub_eq_succ rfl) rfl fun H1 hs=>?_
 refine hs.ldw 3 rfl rfl ?_;refine hs.stw 3 rfl rfl rfl rfl fun H1 hs=>?_
 refine hs.ldw 3 rfl rfl ?_;have e1:(0+0+(a+b+0)/18446744073709551616)%18446744073709551616=(a+b)/18446744073709551616:=by omega
 have e2:(0+0+(a+b+0)/18446744073709551616)/18446744073709551616=0:=by omega
 rw[e2];have hv:Ret (.tuple #[.agg #[.int .u64 (((0+0+(a+b+0)/18446744073709551616)%18446744073709551616:Nat):Int),.int .u64 (((a+b+0)%18446744073709551616:Nat):Int)],.int .u64 ((0:Nat):Int)]) H (.tuple #[.agg #[.int .u64 (((0+0+(a+b+0)/18446744073709551616)%18446744073709551616:Nat):Int),.int .u64 (((a+b+0)%18446744073709551616:Nat):Int)],.int .u64 ((0:Nat):Int)]) H1:=hs.fin 0 rfl _;rw[e1]at hv;rw[e1];exact hv)
theorem kZZ {a b:Nat}(ha:a<2^64)(hb:b<2^64)(H:Hp):Zc prog 268 #[.int .u64 (a:Int),.int .u64 (b:Int)] H (RetE (.int .u64 (((a+b)%18446744069414584321:Nat):Int)) H):=Zc.ret (by
 apply hZd.ok;unfold hZd;have hs:=Sep.start H;refine Zc.use (eZJ ha H) ?_;simp only[HV];refine Zc.use (eZJ hb H) ?_;simp only[HV];refine Zc.use (vZK (a:=a%18446744069414584321) (b:=b%18446744069414584321) (by omega) (by omega) H) ?_;simp only[HV];refine hs.nw fun b1 H1 hs=>?_
 refine hs.stw 1 rfl rfl rfl rfl fun H1 hs=>?_
 refine hs.ldw 1 rfl rfl ?_;refine Zc.use (mZw (hi:=(a%18446744069414584321+b%18446744069414584321)/18446744073709551616) (lo:=(a%18446744069414584321+b%18446744069414584321)%18446744073709551616) (by omega) (by omega) H1) ?_;simp only[HV];have:((a%18446744069414584321+b%18446744069414584321)/18446744073709551616*18446744073709551616+(a%18446744069414584321+b%18446744069414584321)%18446744073709551616)%18446744069414584321=(a+b)%18446744069414584321:=by omega
 rw[this];exact hs.fin 0 rfl _)
end Gol
end Go.Proofs.YtahjgjaenegpgaaGreatDoor
