import Derived.Shelf.Strings.Trim
import Derived.Test.YtgfildcgihbdaaaGreatDoorProg
import Derived.Test.YtgfildcgihbdaaaGreatDoorPkBudgetCrashes6
set_option maxRecDepth 100000
set_option linter.unusedSimpArgs false
set_option linter.unusedVariables false
set_option linter.unnecessarySimpa false
set_option linter.unusedSectionVars false
open Go.IntKind (i64 u32 u64)
namespace Go.Proofs.YtgfildcgihbdaaaGreatDoor.Lib2
open Go Go.Proofs Go.Shelf Go.RowKit
def sZd :Go.Shelf.Ren:=⟨fun|160=>194|232=>221|231=>220|227=>222|234=>224|233=>223|236=>226|235=>225|228=>243|271=>246|151=>245|197=>244|120=>260|152=>259|260=>258|137=>265|119=>266|224=>267|225=>268|217=>272|266=>274|n=>n,fun|9=>9|4=>4|3=>3|5=>5|117=>320|116=>319|0=>0|124=>323|21=>21|105=>337|46=>110|119=>355|139=>358|138=>357|n=>n,fun|3=>3|4=>4|n=>n⟩
theorem wZD :Go.Proofs.Lays.n160 Tryz.prog sZd where
 mixed:=by kernel_rfl
 f119:=Tryz.func266.trans (congrArg some (by kernel_rfl))
 f120:=Tryz.func260.trans (congrArg some (by kernel_rfl))
 f137:=Tryz.func265.trans (congrArg some (by kernel_rfl))
 f151:=Tryz.func245.trans (congrArg some (by kernel_rfl))
 f152:=Tryz.func259.trans (congrArg some (by kernel_rfl))
 f160:=Tryz.func194.trans (congrArg some (by kernel_rfl))
 f197:=Tryz.func244.trans (congrArg some (by kernel_rfl))
 f217:=Tryz.func272.trans (congrArg some (by kernel_rfl))
 f224:=Tryz.func267.trans (congrArg some (by kernel_rfl))
 f225:=Tryz.func268.trans (congrArg some (by kernel_rfl))
 f227:=Tryz.func222.trans (congrArg some (by kernel_rfl))
 f228:=Tryz.func243.trans (congrArg some (by kernel_rfl))
 f231:=Tryz.func220.trans (congrArg some (by kernel_rfl))
 f232:=Tryz.func221.trans (congrArg some (by kernel_rfl))
 f233:=Tryz.func223.trans (congrArg some (by kernel_rfl))
 f234:=Tryz.func224.trans (congrArg some (by kernel_rfl))
 f235:=Tryz.func225.trans (congrArg some (by kernel_rfl))
 f236:=Tryz.func226.trans (congrArg some (by kernel_rfl))
 f260:=Tryz.func258.trans (congrArg some (by kernel_rfl))
 f266:=Tryz.func274.trans (congrArg some (by kernel_rfl))
 f271:=Tryz.func246.trans (congrArg some (by kernel_rfl))
 t0:=Tryz.underlying0
 a0:=Tryz.isAgg0
 z0:=Tryz.sizeOf0
 v0:=Tryz.zeroValue0
 t3:=Tryz.underlying3
 a3:=Tryz.isAgg3
 z3:=Tryz.sizeOf3
 v3:=Tryz.zeroValue3
 t4:=Tryz.underlying4
 a4:=Tryz.isAgg4
 z4:=Tryz.sizeOf4
 v4:=Tryz.zeroValue4
 t5:=Tryz.underlying5
 a5:=Tryz.isAgg5
 z5:=Tryz.sizeOf5
 v5:=Tryz.zeroValue5
 t9:=Tryz.underlying9
 a9:=Tryz.isAgg9
 z9:=Tryz.sizeOf9
 v9:=Tryz.zeroValue9
 t21:=Tryz.underlying21
 a21:=Tryz.isAgg21
 z21:=Tryz.sizeOf21
 v21:=Tryz.zeroValue21
 t46:=Tryz.underlying110
 a46:=Tryz.isAgg110
 z46:=Tryz.sizeOf110
 v46:=Tryz.zeroValue110
 t105:=Tryz.underlying337
 a105:=Tryz.isAgg337
 z105:=Tryz.sizeOf337
 v105:=Tryz.zeroValue337
 t116:=Tryz.underlying319
 a116:=Tryz.isAgg319
 z116:=Tryz.sizeOf319
 t117:=Tryz.underlying320
 a117:=Tryz.isAgg320
 z117:=Tryz.sizeOf320
 v117:=Tryz.zeroValue320
 t119:=Tryz.underlying355
 a119:=Tryz.isAgg355
 z119:=Tryz.sizeOf355
 t124:=Tryz.underlying323
 a124:=Tryz.isAgg323
 z124:=Tryz.sizeOf323
 v124:=Tryz.zeroValue323
 t138:=Tryz.underlying357
 a138:=Tryz.isAgg357
 z138:=Tryz.sizeOf357
 v138:=Tryz.zeroValue357
 t139:=Tryz.underlying358
 a139:=Tryz.isAgg358
 z139:=Tryz.sizeOf358
 v139:=Tryz.zeroValue358
 g3:=by kernel_rfl
 g4:=by kernel_rfl
end Go.Proofs.YtgfildcgihbdaaaGreatDoor.Lib2
namespace Go.Hw
open Go Go.Proofs Go.Proofs.YtgfildcgihbdaaaGreatDoor.Lib2 Go.RowKit Go.Shelf
theorem uZo (s:ByteArray)(c:UInt8)(hc:c.toNat<128)(hs:s.size≤9223372036854775807)(H:Hp):
  Za Tryz.prog 194 #[.string s,.string ⟨#[c]⟩] H (RetE (.string ⟨(Lib.trimB s.data.toList c).toArray⟩) H):=fun w hw=>by
 refine(Any.strings_Trim_one wZD s c hc w hs).mono ?_;rintro e w' ⟨rfl,h⟩;refine⟨_,H,rfl,⟨rfl,rfl⟩,?_⟩;rcases h with rfl|rfl
 ·exact At.refl hw
 ·exact⟨hw,Nat.le_refl _,rfl,rfl,rfl,fun _ _ h=>⟨h,rfl⟩⟩
theorem rZb (p:UInt8→Bool):∀ l:List UInt8,l.dropWhile p=[]↔∀ x∈l,p x=true
 | []=>by simp
 |z::l=>by
  rw[List.dropWhile_cons];by_cases hz:p z=true
  ·rw[if_pos hz,rZb p l];constructor
   ·intro h x hx;rcases List.mem_cons.1 hx with rfl|hx
    ·exact hz
    ·exact h x hx
   ·intro h x hx;exact h x (List.mem_cons_of_mem _ hx)
  ·rw[if_neg hz];constructor
   ·intro h;cases h
   ·intro h;exact absurd (h z (by simp)) hz
theorem rZa (p:UInt8→Bool):∀ l:List UInt8,(∀ x∈l.dropWhile p,p x=true)→∀ x∈l,p x=true
 | [],_=>by simp
 |z::l,h=>by
  rw[List.dropWhile_cons]at h;by_cases hz:p z=true
  ·rw[if_pos hz]at h;intro x hx;rcases List.mem_cons.1 hx with rfl|hx
   ·exact hz
   ·exact rZa p l h x hx
  ·rw[if_neg hz]at h;exact absurd (h z (by simp)) hz
theorem mZQ (l:List UInt8)(c:UInt8):Lib.trimB l c=[]↔∀ x∈l,x=c:=by
 unfold Lib.trimB Lib.trimLeftB Lib.trimRightB;rw[rZb];constructor
 ·intro h x hx;have:=rZa (· ==c) l.reverse (fun y hy=>h y (by simpa using hy)) x (by simpa using hx);simpa using this
 ·intro h x hx;have:=(List.dropWhile_sublist (· ==c)).subset (List.mem_reverse.1 hx);simpa using h x (List.mem_reverse.1 this)
end Go.Hw
namespace Go.Proofs.YtgfildcgihbdaaaGreatDoor.Rec
open Go Go.Hw Go.Form Go.Crc W
def hZQ (a b c:Nat):R:=⟨a%281474976710656,((b%256:Nat):Int),((b/65536%256:Nat):Int),((b/256%256:Nat):Int),((b/16777216%256:Nat):Int),b/4294967296,c/4294967296,c%4294967296⟩
theorem vZY {x:Nat}(hx:x<2^64):aZn .u64 (x:Int) 281474976710655=((x%281474976710656:Nat):Int):=by
 rw[show(281474976710655:Int)=((281474976710655:Nat):Int)from rfl,lZO hx (by omega),show 281474976710655=2^48-1 from rfl,Nat.and_two_pow_sub_one_eq_mod]
theorem nZh {x:Nat}(hx:x<2^64):aZn .u64 (x:Int) 255=((x%256:Nat):Int):=by
 rw[show(255:Int)=((255:Nat):Int)from rfl,lZO hx (by omega),show 255=2^8-1 from rfl,Nat.and_two_pow_sub_one_eq_mod]
theorem wZQ (x:Nat):u32.wrap (x:Int)=((x%4294967296:Nat):Int):=by
 simp only[IntKind.wrap,IntKind.bits,IntKind.signed,Bool.false_and,Bool.false_eq_true,if_false];omega
theorem nZj (A:OA)(n m a b c:Nat)(ws:List Nat)(hn:n=(a::b::c::ws).length)(ha:a<2^64)(hb:b<2^64)(hc:c<2^64)(H:Hp)(hl:Cells H A (Gen.eZk (a::b::c::ws))):
  Za Tryz.prog 178 #[.slice A n m] H (RetE (.agg (hZQ a b c).c) H):=Za.ret (by
 apply gZw.ok;unfold gZw;have hlen:(Gen.eZk (a::b::c::ws)).length≤n:=by rw[Gen.gZE,hn];exact Nat.le_refl _
 refine(Sep.start H).nw fun b1 H1 hs=>?_
 have hl1:=hl.le (hs.ow 0 rfl);have r0:(Gen.eZk (a::b::c::ws))[0]? =some (.int .u64 (a:Int)):=rfl;have r1:(Gen.eZk (a::b::c::ws))[1]? =some (.int .u64 (b:Int)):=rfl;have r2:(Gen.eZk (a::b::c::ws))[2]? =some (.int .u64 (c:Int)):=rfl;refine hl1.read r0 rfl hlen ?_;simp only[HV];refine hl1.read r1 rfl hlen ?_;simp only[HV];refine hl1.read r1 rfl hlen ?_;simp only[HV];refine⟨by decide,?_⟩;refine hl1.read r1 rfl hlen ?_;simp only[HV];refine⟨by decide,?_⟩;refine hl1.read r1 rfl hlen ?_;simp only[HV];refine⟨by decide,?_⟩;refine hl1.read r1 rfl hlen ?_;simp only[HV];refine⟨by decide,?_⟩;refine hl1.read r2 rfl hlen ?_;simp only[HV];refine⟨by decide,?_⟩;refine hl1.read r2 rfl hlen ?_;simp only[HV];have s8:aZm .u64 (b:Int) 8=((b/256:Nat):Int):=hZz (k:=.u64) (a:=b) (i:=8) (n:=8) rfl (by decide);have s16:aZm .u64 (b:Int) 16=((b/65536:Nat):Int):=hZz (k:=.u64) (a:=b) (i:=16) (n:=16) rfl (by decide);have s24:aZm .u64 (b:Int) 24=((b/16777216:Nat):Int):=hZz (k:=.u64) (a:=b) (i:=24) (n:=24) rfl (by decide);have s32:aZm .u64 (b:Int) 32=((b/4294967296:Nat):Int):=hZz (k:=.u64) (a:=b) (i:=32) (n:=32) rfl (by decide);have t32:aZm .u64 (c:Int) 32=((c/4294967296:Nat):Int):=hZz (k:=.u64) (a:=c) (i:=32) (n:=32) rfl (by decide);rw[s8,s16,s24,s32,t32,vZY ha,nZh hb,nZh (x:=b/65536) (by omega),nZh (x:=b/256) (by omega),nZh (x:=b/16777216) (by omega),aZy (n:=b%256) (by omega),aZy (n:=b/65536%256) (by omega),aZy (n:=b/256%256) (by omega),aZy (n:=b/16777216%256) (by omega),
  oZz (n:=b/4294967296) (by omega),oZz (n:=c/4294967296) (by omega),wZQ c]
 refine hs.stw 1 rfl rfl rfl rfl fun H1 hs=>?_
 refine hs.ldw 1 rfl rfl ?_;exact hs.fin 0 rfl _)
def wds (bs:List UInt8)(n:Nat):List Nat:=(List.range n).map fun i=>Zs bs (8*i)
theorem tZE (bs:List UInt8)(n:Nat):wds bs (n+1)=wds bs n++[Zs bs (8*n)]:=by
 unfold wds;rw[List.range_succ,List.map_append];rfl
def fZ2 (bs:List UInt8):Bool:=decide (∀ x∈bs.drop 32,x=0)
theorem nZI (K:VK){A:OA}{n m:Nat}{bs:List UInt8}{R:As}(hR:∀ H,R H→Cells H A (Zm bs))(hn:n=bs.length)(hnm:n≤m)(h32:32≤n)(hbig:n≤1000000)
  (hK:∀ A' m' H,4≤m'→Sep [R,Own 82 1 A' 4 m' (Gen.eZk (wds bs 4))] H→K (.tuple #[.slice A' 4 m',.bool (fZ2 bs)]) H):
  ∀(t i:Nat) (A':OA) (m':Nat) (H:Hp),i+t=4→i≤m'→Sep [R,Own 82 1 A' i m' (Gen.eZk (wds bs i))] H→aZL.l2 K (t+1) A n m A' i m' (i:Int) H
 |0,i,A',m',H,hi,hm',hs=>by
  obtain rfl:i=4:=by omega
  have hc:Cells H A (Zm bs):=by
   obtain⟨H1,h1,hle⟩:=hs.see 0 rfl;exact(hR H1 h1).le hle
  unfold aZL.l2;refine Zh (by decide) ?_;refine hZA (l:=32) rfl h32 ?_;have h1:Cells H (slA A m 32 1) (Zm (bs.drop 32)):=by
   have:=hc.shift (m:=m) (l:=32) (by rw[ZJ];omega);rw[show(Zm bs).drop 32=Zm (bs.drop 32) by unfold Zm;rw[List.map_drop]]at this;exact this
  refine qZF h1 (by rw[List.length_drop];omega) ?_;refine Za.use (uZo ⟨(bs.drop 32).toArray⟩ 0 (by decide) (by show(bs.drop 32).toArray.size≤_;simp;omega) H) ?_;simp only[HV];have he:((⟨(Go.Lib.trimB (bs.drop 32) 0).toArray⟩:ByteArray).toList==(⟨#[]⟩:ByteArray).toList)=fZ2 bs:=by
   rw[ByteArray.toList_mk,show(⟨#[]⟩:ByteArray).toList=[]from ByteArray.toList_mk []];unfold fZ2;by_cases h:Go.Lib.trimB (bs.drop 32) 0=[]
   ·rw[h,decide_eq_true ((mZQ _ _).1 h)];rfl
   ·rw[decide_eq_false (fun g=>h ((mZQ _ _).2 g)),beq_eq_false_iff_ne.2 h]
  rw[he];exact hK A' m' H hm' hs
 |t+1,i,A',m',H,hi,hm',hs=>by
  have hc:Cells H A (Zm bs):=by
   obtain⟨H1,h1,hle⟩:=hs.see 0 rfl;exact(hR H1 h1).le hle
  unfold aZL.l2;refine Zn (by omega) ?_;refine Za.use (FormP.Word_ok A n m hnm (by omega) bs hn i (by omega) H hc) ?_;simp only[HV];refine qZR ?_;refine hs.app1 1 rfl Gen.bZO (by omega) rfl (by omega) (by omega) fun A2 m2 H hs hcap=>?_
  simp only[HV];rw[ZL (x:=(i:Int)+1) (by omega) (by omega),show(i:Int)+1=((i+1:Nat):Int) by omega];refine nZI K hR hn hnm h32 hbig hK t (i+1) A2 m2 H (by omega) (hcap _ _ _ rfl) ?_;rw[tZE,show Gen.eZk (wds bs i++[Zs bs (8*i)])=Gen.eZk (wds bs i)++[.int .u64 ((Zs bs (8*i):Nat):Int)] by unfold Gen.eZk;rw[List.map_append];rfl];exact hs
theorem vZI {A:OA}{n m:Nat}{bs:List UInt8}{R:As}(hR:∀ H,R H→Cells H A (Zm bs))(hn:n=bs.length)(hnm:n≤m)(h32:32≤n)(hbig:n≤1000000):
  Tr Tryz.prog 177 #[.slice A n m] [R] fun v M=>∃ A' m',4≤m'∧v= .tuple #[.slice A' 4 m',.bool (fZ2 bs)]∧M=[R,Own 82 1 A' 4 m' (Gen.eZk (wds bs 4))]:=fun H hs=>by
 apply aZL.ok;unfold aZL;have e0:Sep [R,Own 82 1 none 0 0 (Gen.eZk (wds bs 0))] H:=by
  have:Sep (Own 82 1 none 0 0 []::[R]) H:=⟨fun _=>none,H,fun _ _ h=>(nomatch h),Hp.le_refl _,fun _=>.inl rfl,Own.none _ _ _,hs⟩;exact this.re [1,0] rfl
 refine⟨5,?_⟩;refine nZI _ hR hn hnm h32 hbig (fun A' m' H hm' hs=>?_) 4 0 none 0 H rfl (Nat.le_refl _) e0;exact⟨_,⟨A',m',hm',rfl,rfl⟩,hs⟩
end Go.Proofs.YtgfildcgihbdaaaGreatDoor.Rec
namespace Go.Proofs.YtgfildcgihbdaaaGreatDoor.Rec
open Go Go.Hw Go.Form Go.Crc W
def secB (n:Int):Bool:=decide ((Lay.gZm 0 n).2=0)
theorem hZS (x:Int)(H:Hp):Za Tryz.prog 152 #[.int .i64 x] H (RetE (.bool (secB x)) H):=by
 apply cZH.ok;unfold cZH;refine Za.use (Lay.jZB 0 x H) ?_;simp only[HV];refine⟨?_,rfl⟩;unfold secB;by_cases h:(Lay.gZm 0 x).2=0
 ·rw[decide_eq_true h,h];rfl
 ·rw[decide_eq_false h,beq_eq_false_iff_ne.2 h]
def aZ9 :R:=⟨0,0,0,0,0,0,0,0⟩
def w3U (bs:List UInt8):List UInt64:=[UInt64.ofNat (Zs bs 0),UInt64.ofNat (Zs bs 8),UInt64.ofNat (Zs bs 16)]
def aZW (bs:List UInt8):R×Int:=
 if secB (bs.length:Int)=true then
  if Zs bs 0/281474976710656=21061∧fZ2 bs=true then
   if Zs bs 24=aZ8 0 (gZF (w3U bs))then
    if(hZQ (Zs bs 0) (Zs bs 8) (Zs bs 16)).good then(hZQ (Zs bs 0) (Zs bs 8) (Zs bs 16),0)else(aZ9,1)
   else(aZ9,9)
  else(aZ9,10)
 else(aZ9,15)
theorem cZN (bs:List UInt8)(o:Nat):Zs bs o<2^64:=pZi (by simp;omega)
set_option maxHeartbeats 1000000 in
theorem hZ4 (A:OA)(n m:Nat)(bs:List UInt8)(hn:n=bs.length)(hnm:n≤m)(hbig:n≤1000000)(h32:secB (n:Int)=true→32≤n)(H:Hp)(hc:Cells H A (Zm bs)):
  Za Tryz.prog 138 #[.slice A n m] H (RetE (.tuple #[.agg (aZW bs).1.c,.int .i64 (aZW bs).2]) H):=Za.ret (by
 apply cZg.ok;unfold cZg cZg.q1 aZW;rw[← hn];refine(Sep.start H).nw fun b1 H1 hs=>?_
 have hs:Sep [own H,pts b1 (bZu aZ9)] H1:=hs;refine Za.use (hZS n H1) ?_;simp only[HV];by_cases hsec:secB (n:Int)=true
 case neg=>
  rw[if_neg hsec,show secB (n:Int)=false by simpa using hsec];refine aZt rfl ?_;refine hs.stw 1 rfl rfl rfl rfl fun H1 hs=>?_
  refine hs.ldw 1 rfl rfl ?_;exact hs.fin 0 rfl _
 rw[if_pos hsec,hsec];refine aZb rfl ?_;refine(vZI (R:=own H) (fun H' h=>hc.le h) hn hnm (h32 hsec) hbig).use hs [0] rfl rfl ?_;rintro _ _ H1 ⟨A',m',hm',rfl,rfl⟩ hs;simp only[HV];have hA:Cells H1 A' (Gen.eZk (wds bs 4)):=by
  obtain⟨hl,h⟩:=hs.own 1 rfl;rcases h with⟨_,h0,_⟩|⟨b,mm,rfl,hb,_⟩
  ·omega
  ·have:=Cells.row hb 0 4;exact this
 have hw:wds bs 4=[Zs bs 0,Zs bs 8,Zs bs 16,Zs bs 24]:=rfl;rw[hw]at hA hs;refine Za.use (nZj A' 4 m' (Zs bs 0) (Zs bs 8) (Zs bs 16) [Zs bs 24] rfl (cZN _ _) (cZN _ _) (cZN _ _) H1 hA) ?_;simp only[HV];refine hs.nw fun b2 H1 hs=>?_
 refine hs.stw 3 rfl rfl rfl rfl fun H1 hs=>?_
 have hs:Sep [own H,Own 82 1 A' 4 m' (Gen.eZk [Zs bs 0,Zs bs 8,Zs bs 16,Zs bs 24]),pts b1 (bZu aZ9),pts b2 (bZu (hZQ (Zs bs 0) (Zs bs 8) (Zs bs 16)))] H1:=hs;have hA:Cells H1 A' (Gen.eZk [Zs bs 0,Zs bs 8,Zs bs 16,Zs bs 24]):=by
  obtain⟨hl,h⟩:=hs.own 1 rfl;rcases h with⟨_,h0,_⟩|⟨b,mm,rfl,hb,_⟩
  ·omega
  ·have:=Cells.row hb 0 4;exact this
 refine hA.read (i:=0) rfl rfl (by rw[Gen.gZE];exact Nat.le_refl _) ?_;simp only[HV];refine⟨by decide,?_⟩;have s48:aZm .u64 ((Zs bs 0:Nat):Int) 48=((Zs bs 0/281474976710656:Nat):Int):=hZz (k:=.u64) (a:=Zs bs 0) (i:=48) (n:=48) rfl (by decide);rw[s48];by_cases hmg:Zs bs 0/281474976710656=21061
 case neg=>
  rw[if_neg (fun h=>hmg h.1)];refine ZB (by omega) ?_;refine hs.stw 2 rfl rfl rfl rfl fun H1 hs=>?_
  refine hs.ldw 2 rfl rfl ?_;exact hs.fin 0 rfl _
 refine Zq (by omega) ?_;by_cases hno:fZ2 bs=true
 case neg=>
  rw[if_neg (fun h=>hno h.2),show fZ2 bs=false by simpa using hno];refine aZt rfl ?_;refine hs.stw 2 rfl rfl rfl rfl fun H1 hs=>?_
  refine hs.ldw 2 rfl rfl ?_;exact hs.fin 0 rfl _
 rw[if_pos ⟨hmg,hno⟩,hno];refine aZb rfl ?_;refine hA.read (i:=3) rfl rfl (by rw[Gen.gZE];exact Nat.le_refl _) ?_;simp only[HV];refine lZB (r:=3) rfl (by omega) ?_;have hU:Cells H1 (slA A' m' 0 1) (Zc (w3U bs)):=by
  have:=(hA.shift (m:=m') (l:=0) (by rw[Gen.gZE];exact hm')).take 3;have e:Zc (w3U bs)=((Gen.eZk [Zs bs 0,Zs bs 8,Zs bs 16,Zs bs 24]).drop 0).take 3:=by
   show [Value.int .u64 ((UInt64.ofNat (Zs bs 0)).toNat:Int),Value.int .u64 ((UInt64.ofNat (Zs bs 8)).toNat:Int),Value.int .u64 ((UInt64.ofNat (Zs bs 16)).toNat:Int)]=_
   rw[UInt64.toNat_ofNat_of_lt' (cZN bs 0),UInt64.toNat_ofNat_of_lt' (cZN bs 8),UInt64.toNat_ofNat_of_lt' (cZN bs 16)];rfl
  rw[e];exact this
 refine ZM.use (pZz (slA A' m' 0 1) 3 (m'-0) (w3U bs) rfl (by omega) H1 hU) ?_;simp only[HV];by_cases hsl:Zs bs 24=aZ8 0 (gZF (w3U bs))
 case neg=>
  rw[if_neg hsl];refine ZB (by omega) ?_;refine hs.stw 2 rfl rfl rfl rfl fun H1 hs=>?_
  refine hs.ldw 2 rfl rfl ?_;exact hs.fin 0 rfl _
 rw[if_pos hsl];refine Zq (by omega) ?_;refine hs.ldw 3 rfl rfl ?_;refine Za.use (bZK (hZQ (Zs bs 0) (Zs bs 8) (Zs bs 16)) H1) ?_;simp only[HV];by_cases hg:(hZQ (Zs bs 0) (Zs bs 8) (Zs bs 16)).good
 ·rw[if_pos hg,decide_eq_true hg];refine aZb rfl ?_;refine hs.ldw 3 rfl rfl ?_;refine hs.stw 2 rfl rfl rfl rfl fun H1 hs=>?_
  refine hs.ldw 2 rfl rfl ?_;exact hs.fin 0 rfl _
 ·rw[if_neg hg,decide_eq_false hg];refine aZt rfl ?_;refine hs.stw 2 rfl rfl rfl rfl fun H1 hs=>?_
  refine hs.ldw 2 rfl rfl ?_;exact hs.fin 0 rfl _)
end Go.Proofs.YtgfildcgihbdaaaGreatDoor.Rec
namespace Go.Proofs.YtgfildcgihbdaaaGreatDoor.W
open Go Go.Hw
theorem cZh :Tryz.prog.follows .mixedOrders=true:=by kernel_rfl
def fZi (p1:OA)(x1 x2 x3 x4:Int)(H:Hp)(K:VK):Prop:=
 Nw H (.obj (.cells #[.int .i64 x1,.int .i64 x2,.int .i64 x3,.int .i64 x4] 27)) fun b1 H1=>LdA H1 ⟨b1,0,none⟩ 4 fun l1=>Hz 77 #[.agg l1.toArray] H1 fun v1 H2=>eZt v1 fun A1 n1 m1 x5=>(BIf (x5 !=0) (K (.int .i64 1) H2) (LdA H2 ⟨b1,0,none⟩ 4 fun l5=>HcB 78 #[.pointer p1,.agg l5.toArray] H2 fun c1 H3=>BIf (!c1) (K (.int .i64 1) H3) (HcI 45 #[.pointer p1,.int .i64 0,.slice A1 n1 m1] H3 fun x6 H4=>BIf (x6 !=0) (K (.int .i64 x6) H4) (HcI 47 #[.pointer p1] H4 fun x7 H5=>K (.int .i64 x7) H5))))
theorem fZi.ok p1 x1 x2 x3 x4 H K (h:fZi p1 x1 x2 x3 x4 H K):Za Tryz.prog 50 #[.pointer p1,.agg #[.int .i64 x1,.int .i64 x2,.int .i64 x3,.int .i64 x4]] H K:=
 okN cZh Tryz.func50 rfl rfl h
def dZO (p1:OA)(H:Hp)(K:VK):Prop:=
 Nw H (.obj (.cells #[.int .i64 0,.int .i64 0,.int .i64 0,.int .i64 0] 27)) fun b1 H1=>Hz 91 #[.pointer p1,.int .i64 0] H1 fun v1 H2=>eZt v1 fun A1 n1 m1 x1=>(BIf (x1 !=0) (StA H2 ⟨b1,0,none⟩ #[.int .i64 0,.int .i64 0,.int .i64 0,.int .i64 0] 4 fun H3=>LdA H3 ⟨b1,0,none⟩ 4 fun l9=>K (.tuple #[.agg l9.toArray,.int .i64 x1]) H3) (Hz 92 #[.slice A1 n1 m1] H2 fun v4 H4=>cZQ v4 fun y1 x2=>(Nw H4 (.obj (.cells #[.int .i64 0,.int .i64 0,.int .i64 0,.int .i64 0] 27)) fun b2 H5=>StA H5 ⟨b2,0,none⟩ y1 4 fun H6=>BIf (x2 !=0) (StA H6 ⟨b1,0,none⟩ #[.int .i64 0,.int .i64 0,.int .i64 0,.int .i64 0] 4 fun H7=>LdA H7 ⟨b1,0,none⟩ 4 fun l10=>K (.tuple #[.agg l10.toArray,.int .i64 x2]) H7) (LdA H6 ⟨b2,0,none⟩ 4 fun l7=>HcB 78 #[.pointer p1,.agg l7.toArray] H6 fun c1 H8=>BIf (!c1) (StA H8 ⟨b1,0,none⟩ #[.int .i64 0,.int .i64 0,.int .i64 0,.int .i64 0] 4 fun H9=>LdA H9 ⟨b1,0,none⟩ 4 fun l11=>K (.tuple #[.agg l11.toArray,.int .i64 1]) H9) (LdA H8 ⟨b2,0,none⟩ 4 fun l8=>StA H8 ⟨b1,0,none⟩ l8.toArray 4 fun H10=>LdA H10 ⟨b1,0,none⟩ 4 fun l12=>K (.tuple #[.agg l12.toArray,.int .i64 0]) H10)))))
theorem dZO.ok p1 H K (h:dZO p1 H K):Za Tryz.prog 64 #[.pointer p1] H K:=
 okN cZh Tryz.func64 rfl rfl h
def eZG (x1 x2 x3 x4:Int)(H:Hp)(K:VK):Prop:=
 Nw H (.obj (.cells #[.int .i64 x1,.int .i64 x2,.int .i64 x3,.int .i64 x4] 27)) fun b1 H1=>Nw H1 (.obj (.cells #[.int .i64 0,.int .i64 0,.int .i64 0,.int .i64 0,.int .i64 0,.int .i64 0,.int .i64 0,.int .i64 0,.int .i64 0,.int .i64 0,.int .i64 0,.int .i64 0,.int .i64 0,.int .i64 0,.int .i64 0,.int .i64 0,.int .i64 0] 90)) fun b2 H2=>LdA H2 ⟨b1,0,none⟩ 4 fun l1=>HcB 96 #[.agg l1.toArray] H2 fun c1 H3=>BIf (!c1) (StA H3 ⟨b2,0,none⟩ #[.int .i64 0,.int .i64 0,.int .i64 0,.int .i64 0,.int .i64 0,.int .i64 0,.int .i64 0,.int .i64 0,.int .i64 0,.int .i64 0,.int .i64 0,.int .i64 0,.int .i64 0,.int .i64 0,.int .i64 0,.int .i64 0,.int .i64 0] 17 fun H4=>LdA H4 ⟨b2,0,none⟩ 17 fun l5=>K (.tuple #[.agg l5.toArray,.int .i64 1]) H4) (LeI H3 ((⟨b1,0,none⟩:Addr).add 0) fun x5=>LeI H3 ((⟨b1,0,none⟩:Addr).add 1) fun x6=>LeI H3 ((⟨b1,0,none⟩:Addr).add 2) fun x7=>Hz 70 #[.int .i64 x5,.int .i64 x6,.int .i64 x7] H3 fun v5 H5=>cZQ v5 fun y1 x8=>(StA H5 ⟨b2,0,none⟩ y1 17 fun H6=>LdA H6 ⟨b2,0,none⟩ 17 fun l6=>K (.tuple #[.agg l6.toArray,.int .i64 x8]) H6))
theorem eZG.ok x1 x2 x3 x4 H K (h:eZG x1 x2 x3 x4 H K):Za Tryz.prog 69 #[.agg #[.int .i64 x1,.int .i64 x2,.int .i64 x3,.int .i64 x4]] H K:=
 okN cZh Tryz.func69 rfl rfl h
def eZg (x1 x2 x3 x4:Int)(H:Hp)(K:VK):Prop:=
 Nw H (.obj (.cells #[.int .i64 x1,.int .i64 x2,.int .i64 x3,.int .i64 x4] 27)) fun b1 H1=>LdA H1 ⟨b1,0,none⟩ 4 fun l1=>HcB 96 #[.agg l1.toArray] H1 fun c1 H2=>BIf (!c1) (K (.tuple #[.slice none 0 0,.int .i64 1]) H2) (LdA H2 ⟨b1,0,none⟩ 4 fun l2=>QcW 102 #[.agg l2.toArray] H2 fun x5=>LeI H2 ((⟨b1,0,none⟩:Addr).add 1) fun x6=>LeI H2 ((⟨b1,0,none⟩:Addr).add 3) fun x7=>Nw H2 (.row [.int .u64 x5,.int .u64 (u64.wrap x6),.int .u64 (u64.wrap x7)] 82 3) fun b2 H3=>LeI H3 ((⟨b1,0,none⟩:Addr).add 2) fun x8=>MkS Tryz.prog 5 x8 x8 H3 fun v6 H4=>DSl v6 fun A1 n1 m1=>HcU 104 #[.slice (some ⟨b2,0,none⟩) 3 3] H4 fun x9 H5=>Nw H5 (.row [.int .u64 (u64.wrap x9)] 82 1) fun b3 H6=>cZO Tryz.prog 82 (.slice (some ⟨b2,0,none⟩) 3 3) (.slice (some ⟨b3,0,none⟩) 1 1) H6 fun v8 H7=>DSl v8 fun A2 n2 m2=>HcS 103 #[.slice A2 n2 m2] H7 fun A3 n3 m3 H8=>CpK Tryz.prog 5 (.slice A1 n1 m1) (.slice A3 n3 m3) H8 fun v10 H9=>DI .i64 v10 fun x10=>K (.tuple #[.slice A1 n1 m1,.int .i64 0]) H9)
theorem eZg.ok x1 x2 x3 x4 H K (h:eZg x1 x2 x3 x4 H K):Za Tryz.prog 77 #[.agg #[.int .i64 x1,.int .i64 x2,.int .i64 x3,.int .i64 x4]] H K:=
 ok0 (fun i=>match Nat.beq i 3 with|true=>some ([],[0,1,2,3,4,5,6,7],8)|false=>none) cZh Tryz.func77 rfl rfl h
def gZ3 (p1:OA)(x1 x2 x3 x4:Int)(H:Hp)(K:VK):Prop:=
 Nw H (.obj (.cells #[.int .i64 x1,.int .i64 x2,.int .i64 x3,.int .i64 x4] 27)) fun b1 H1=>LeI H1 ((⟨b1,0,none⟩:Addr).add 1) fun x5=>NN p1 fun a1=>QcI 41 #[.pointer (some (a1.add 0))] H1 fun x6=>BIf (x5==x6) (LeI H1 ((⟨b1,0,none⟩:Addr).add 2) fun x7=>NN p1 fun a2=>QcI 42 #[.pointer (some (a2.add 0))] H1 fun x8=>K (.bool (x7==x8)) H1) (K (.bool false) H1)
theorem gZ3.ok p1 x1 x2 x3 x4 H K (h:gZ3 p1 x1 x2 x3 x4 H K):Za Tryz.prog 78 #[.pointer p1,.agg #[.int .i64 x1,.int .i64 x2,.int .i64 x3,.int .i64 x4]] H K:=
 okN cZh Tryz.func78 rfl rfl h
def aZi.l5.q1 (H9:Hp)(a1:Addr)(K:VK):Prop:=
 StA H9 a1 #[.int .i64 0,.int .i64 0,.int .i64 0,.int .i64 0] 4 fun H13=>LdA H13 a1 4 fun l11=>K (.tuple #[.agg l11.toArray,.int .i64 1]) H13
def aZi.l5 (K:VK):Nat→OA→Nat→Nat→Addr→Addr→Int→Hp→Prop
 |0,_,_,_,_,_,_,_=>False
 |k+1,A2,n2,m2,a1,a2,x1,H=>
  let R5:=aZi.l5 K k
  BIf (decide (x1<4)) (Hz 136 #[.slice A2 n2 m2,.int .i64 x1] H fun v2 H5=>gZO v2 fun x2 x3=>(ixI x1 4 (St H5 ((a2.add (x1.toNat*1)).add 0) (.int .u64 x2) fun H6=>R5 A2 n2 m2 a1 a2 (i64.wrap (x1+1)) H6))) (ixI 0 4 (LeW H (a2.add ((0:Int).toNat*1)) fun x4=>(0≤(16:Int)∧ixI 0 4 (LeW H (a2.add ((0:Int).toNat*1)) fun x5=>(0≤(aZn .u64 x5 63)∧ixI 1 4 (LeW H (a2.add ((1:Int).toNat*1)) fun x6=>ixI 2 4 (LeW H (a2.add ((2:Int).toNat*1)) fun x7=>Nw H (.obj (.cells #[.int .i64 0,.int .i64 0,.int .i64 0,.int .i64 0] 27)) fun b3 H7=>StA H7 ⟨b3,0,none⟩ #[.int .i64 (i64.wrap (aZn .u64 (aZm .u64 x4 16) 65535)),.int .i64 (i64.wrap x6),.int .i64 (aZH .i64 1 (aZn .u64 x5 63)),.int .i64 (i64.wrap x7)] 4 fun H8=>ixI 0 4 (LeW H8 (a2.add ((0:Int).toNat*1)) fun x8=>(0≤(32:Int)∧BIf ((aZm .u64 x8 32) !=1094861123) (StA H8 a1 #[.int .i64 0,.int .i64 0,.int .i64 0,.int .i64 0] 4 fun H10=>LdA H10 a1 4 fun l8=>K (.tuple #[.agg l8.toArray,.int .i64 10]) H10) (HcB 137 #[.slice A2 n2 m2] H8 fun c2 H9=>BIf (!c2) (StA H9 a1 #[.int .i64 0,.int .i64 0,.int .i64 0,.int .i64 0] 4 fun H11=>LdA H11 a1 4 fun l9=>K (.tuple #[.agg l9.toArray,.int .i64 10]) H11) (ixI 3 4 (LeW H9 (a2.add ((3:Int).toNat*1)) fun x9=>slB 4 4 none (some 3) fun n3 n4=>QcU 104 #[.slice (slA (some a2) 4 n3 1) (n4-n3) (4-n3)] H9 fun x10=>BIf (x9 !=(u64.wrap x10)) (StA H9 a1 #[.int .i64 0,.int .i64 0,.int .i64 0,.int .i64 0] 4 fun H12=>LdA H12 a1 4 fun l10=>K (.tuple #[.agg l10.toArray,.int .i64 9]) H12) (LdA H9 ⟨b3,0,none⟩ 4 fun l4=>QcB 96 #[.agg l4.toArray] H9 fun c3=>BIf (!c3) (aZi.l5.q1 H9 a1 K) (LdA H9 ⟨b3,0,none⟩ 4 fun l5=>QcW 102 #[.agg l5.toArray] H9 fun x11=>ixI 0 4 (LeW H9 (a2.add ((0:Int).toNat*1)) fun x12=>BIf (x11 !=x12) (aZi.l5.q1 H9 a1 K) (LeI H9 ((⟨b3,0,none⟩:Addr).add 2) fun x13=>BIf (x13 !=(n2:Int)) (aZi.l5.q1 H9 a1 K) (LdA H9 ⟨b3,0,none⟩ 4 fun l6=>StA H9 a1 l6.toArray 4 fun H16=>LdA H16 a1 4 fun l14=>K (.tuple #[.agg l14.toArray,.int .i64 0]) H16)))))))))))))))))
def aZi (A1:OA)(n1 m1:Nat)(H:Hp)(K:VK):Prop:=
 Nw H (.obj (.cells #[.int .i64 0,.int .i64 0,.int .i64 0,.int .i64 0] 27)) fun b1 H1=>HcB 135 #[.slice A1 n1 m1] H1 fun c1 H2=>BIf (!c1) (StA H2 ⟨b1,0,none⟩ #[.int .i64 0,.int .i64 0,.int .i64 0,.int .i64 0] 4 fun H3=>LdA H3 ⟨b1,0,none⟩ 4 fun l7=>K (.tuple #[.agg l7.toArray,.int .i64 15]) H3) (Nw H2 (.obj (.cells #[.int .u64 0,.int .u64 0,.int .u64 0,.int .u64 0] 223)) fun b2 H4=>(∃ k,aZi.l5 K k A1 n1 m1 ⟨b1,0,none⟩ ⟨b2,0,none⟩ 0 H4))
def aZi.l5.L (K:VK)(k:Nat):Mid:=fun E D H=>
 DG (E.get? 0) fun w0=>DSl w0 fun A2 n2 m2=>eN E 2 fun a1=>eN E 4 fun a2=>eI E 13 .i64 fun x1=>Zk D (aZi.l5 K k A2 n2 m2 a1 a2 x1 H)
def aZi.Λ5 (_:VK)(_R5:OA→Nat→Nat→Addr→Addr→Int→Hp→Prop):Zt:=Zt.none (fun _=>none)
def aZi.Λ (K:VK):Zt:=⟨fun i=>none,fun i=>match Nat.beq i 5 with|true=>some (fun E D H=>∃ k,aZi.l5.L K k E D H)|false=>none,(fun _=>none)⟩
theorem aZi.ok A1 n1 m1 H K (h:aZi A1 n1 m1 H K):Za Tryz.prog 92 #[.slice A1 n1 m1] H K:=
 okL (Λ:=(aZi.Λ K)) cZh Tryz.func92 rfl rfl h (oC (fun E D H h=>by
   refine Safe.loop' (aZi.l5.L K) (fun E D H h=>?_) (fun k E D H h=>?_) E D H h
   ·obtain⟨w0,e0,g1⟩:=DG.out h;obtain⟨A2,n2,m2,rfl,g2⟩:=DSl.out g1;obtain⟨w2,e2,g3⟩:=DG.out g2;obtain⟨pw2,rfl,g4⟩:=DP.out g3;obtain⟨a1,rfl,g5⟩:=NN.out g4;obtain⟨w4,e4,g6⟩:=DG.out g5;obtain⟨pw4,rfl,g7⟩:=DP.out g6;obtain⟨a2,rfl,g8⟩:=NN.out g7;obtain⟨w13,e13,g9⟩:=DG.out g8;obtain⟨x1,rfl,g10⟩:=DI.out g9;obtain⟨rfl,h'⟩:=Zk.out g10;exact h'
   ·obtain⟨w0,e0,g1⟩:=DG.out h;obtain⟨A2,n2,m2,rfl,g2⟩:=DSl.out g1;obtain⟨a1,e2,g5⟩:=GN g2;obtain⟨a2,e4,g8⟩:=GN g5;obtain⟨x1,e13,g10⟩:=GI g8;obtain⟨rfl,h'⟩:=Zk.out g10;exact okJ (Λ:=(aZi.Λ5 K (aZi.l5 K k))) cZh [] (Zb.cons e0 (Zb.cons e2 (Zb.cons e4 (Zb.cons e13 (Zb.nil _))))) h' oN) oN)
def fZR (x1 x2 x3 x4:Int)(H:Hp)(K:VK):Prop:=
 Nw H (.obj (.cells #[.int .i64 x1,.int .i64 x2,.int .i64 x3,.int .i64 x4] 27)) fun b1 H1=>LeI H1 ((⟨b1,0,none⟩:Addr).add 0) fun x5=>LeI H1 ((⟨b1,0,none⟩:Addr).add 1) fun x6=>LeI H1 ((⟨b1,0,none⟩:Addr).add 2) fun x7=>Hz 70 #[.int .i64 x5,.int .i64 x6,.int .i64 x7] H1 fun v4 H2=>cZQ v4 fun y1 x8=>(Nw H2 (.obj (.cells #[.int .i64 0,.int .i64 0,.int .i64 0,.int .i64 0,.int .i64 0,.int .i64 0,.int .i64 0,.int .i64 0,.int .i64 0,.int .i64 0,.int .i64 0,.int .i64 0,.int .i64 0,.int .i64 0,.int .i64 0,.int .i64 0,.int .i64 0] 90)) fun b2 H3=>StA H3 ⟨b2,0,none⟩ y1 17 fun H4=>BIf (x8==0) (LeI H4 ((⟨b1,0,none⟩:Addr).add 3) fun x9=>BIf (decide (x9≥1)) (LeI H4 ((⟨b1,0,none⟩:Addr).add 3) fun x10=>K (.bool (decide (x10≤(16777216:Int)))) H4) (K (.bool false) H4)) (K (.bool false) H4))
theorem fZR.ok x1 x2 x3 x4 H K (h:fZR x1 x2 x3 x4 H K):Za Tryz.prog 96 #[.agg #[.int .i64 x1,.int .i64 x2,.int .i64 x3,.int .i64 x4]] H K:=
 okN cZh Tryz.func96 rfl rfl h
def fZj (x1 x2 x3 x4:Int)(H:Hp)(K:VK):Prop:=
 Nw H (.obj (.cells #[.int .i64 x1,.int .i64 x2,.int .i64 x3,.int .i64 x4] 27)) fun b1 H1=>LeI H1 ((⟨b1,0,none⟩:Addr).add 0) fun x5=>(0≤(16:Int)∧LeI H1 ((⟨b1,0,none⟩:Addr).add 2) fun x6=>QcI 148 #[.int .u64 (u64.wrap x6)] H1 fun x7=>K (.int .u64 (bOr .u64 (bOr .u64 4702392716946833408 (aZH .u64 (u64.wrap x5) 16)) (u64.wrap (i64.wrap (x7-1))))) H1)
theorem fZj.ok x1 x2 x3 x4 H K (h:fZj x1 x2 x3 x4 H K):Za Tryz.prog 102 #[.agg #[.int .i64 x1,.int .i64 x2,.int .i64 x3,.int .i64 x4]] H K:=
 okN cZh Tryz.func102 rfl rfl h
def eZH (A1:OA)(n1 m1:Nat)(H:Hp)(K:VK):Prop:=
 Hz 97 #[.int .i64 0,.int .i64 (n1:Int)] H fun v1 H1=>kZi v1 fun x1 x2=>(K (.bool (x2==0)) H1)
theorem eZH.ok A1 n1 m1 H K (h:eZH A1 n1 m1 H K):Za Tryz.prog 135 #[.slice A1 n1 m1] H K:=
 okN cZh Tryz.func135 rfl rfl h
def aZw.l2 (K:VK):Nat→OA→Nat→Nat→Int→Int→Hp→Prop
 |0,_,_,_,_,_,_=>False
 |k+1,A2,n4,m2,x1,x2,H=>
  let R2:=aZw.l2 K k
  BIf (decide (x2<x1)) (ixI x2 n4 (NN A2 fun a1=>LeV H (a1.add (x2.toNat*1)) fun x3=>BIf (x3 !=0) (K (.bool false) H) (R2 A2 n4 m2 x1 (i64.wrap (x2+1)) H))) (K (.bool true) H)
def aZw (A1:OA)(n1 m1:Nat)(H:Hp)(K:VK):Prop:=
 slB n1 m1 (some 32) none fun n2 n3=>(∃ k,aZw.l2 K k (slA A1 m1 n2 1) (n3-n2) (m1-n2) ((n3-n2:Nat):Int) 0 H)
def aZw.l2.L (K:VK)(k:Nat):Mid:=fun E D H=>
 DG (E.get? 6) fun w6=>DSl w6 fun A2 n4 m2=>eI E 7 .i64 fun x1=>eI E 8 .i64 fun x2=>Zk D (aZw.l2 K k A2 n4 m2 x1 x2 H)
def aZw.Λ2 (_:VK)(_R2:OA→Nat→Nat→Int→Int→Hp→Prop):Zt:=Zt.none (fun _=>none)
def aZw.Λ (K:VK):Zt:=⟨fun i=>none,fun i=>match Nat.beq i 2 with|true=>some (fun E D H=>∃ k,aZw.l2.L K k E D H)|false=>none,(fun _=>none)⟩
theorem aZw.ok A1 n1 m1 H K (h:aZw A1 n1 m1 H K):Za Tryz.prog 137 #[.slice A1 n1 m1] H K:=
 okL (Λ:=(aZw.Λ K)) cZh Tryz.func137 rfl rfl h (oC (fun E D H h=>by
   refine Safe.loop' (aZw.l2.L K) (fun E D H h=>?_) (fun k E D H h=>?_) E D H h
   ·obtain⟨w6,e6,g1⟩:=DG.out h;obtain⟨A2,n4,m2,rfl,g2⟩:=DSl.out g1;obtain⟨w7,e7,g3⟩:=DG.out g2;obtain⟨x1,rfl,g4⟩:=DI.out g3;obtain⟨w8,e8,g5⟩:=DG.out g4;obtain⟨x2,rfl,g6⟩:=DI.out g5;obtain⟨rfl,h'⟩:=Zk.out g6;exact h'
   ·obtain⟨w6,e6,g1⟩:=DG.out h;obtain⟨A2,n4,m2,rfl,g2⟩:=DSl.out g1;obtain⟨x1,e7,g4⟩:=GI g2;obtain⟨x2,e8,g6⟩:=GI g4;obtain⟨rfl,h'⟩:=Zk.out g6;exact okJ (Λ:=(aZw.Λ2 K (aZw.l2 K k))) cZh [] (Zb.cons e6 (Zb.cons e7 (Zb.cons e8 (Zb.nil _)))) h' oN) oN)
end Go.Proofs.YtgfildcgihbdaaaGreatDoor.W
namespace Go.Proofs.YtgfildcgihbdaaaGreatDoor.W
open Go Go.Hw
end Go.Proofs.YtgfildcgihbdaaaGreatDoor.W
namespace Go.Proofs.YtgfildcgihbdaaaGreatDoor.Sup
open Go Go.Hw Go.Form W Lay
def bZi (k sec s ar:Int):Array Value:=#[.int .i64 k,.int .i64 sec,.int .i64 s,.int .i64 ar]
def aZX (k sec s ar:Int):Bool:=decide (0≤k∧k≤32∧0<ZP s∧(cZa k.toNat (ZP s):Int)≤sec∧1≤ar∧ar≤16777216)
theorem kZh (k sec s:Int):(OfV k sec s).1.size=17:=by
 unfold OfV;split
 ·split<;>rfl
 ·rfl
theorem oZ5 (k sec s:Int):(OfV k sec s).1.toList.all (fun v=>v.oneCell')=true:=by
 unfold OfV;split
 ·split<;>rfl
 ·rfl
theorem bZK (k sec s ar:Int)(H:Hp):Za Tryz.prog 96 #[.agg (bZi k sec s ar)] H (RetE (.bool (aZX k sec s ar)) H):=by
 apply Za.ret;apply fZR.ok;unfold fZR;simp only[HS];refine(Sep.start H).nw fun b1 H hs=>?_
 first|refine hs.ld 1 rfl rfl ?_|refine hs.ld 2 rfl rfl ?_|refine hs.ld 3 rfl rfl ?_|refine hs.ld 4 rfl rfl ?_|refine hs.ld 5 rfl rfl ?_|refine hs.ld 6 rfl rfl ?_|refine hs.ld 7 rfl rfl ?_|refine hs.ld 8 rfl rfl ?_
 try simp only[HV]
 first|refine hs.ld 1 rfl rfl ?_|refine hs.ld 2 rfl rfl ?_|refine hs.ld 3 rfl rfl ?_|refine hs.ld 4 rfl rfl ?_|refine hs.ld 5 rfl rfl ?_|refine hs.ld 6 rfl rfl ?_|refine hs.ld 7 rfl rfl ?_|refine hs.ld 8 rfl rfl ?_
 try simp only[HV]
 first|refine hs.ld 1 rfl rfl ?_|refine hs.ld 2 rfl rfl ?_|refine hs.ld 3 rfl rfl ?_|refine hs.ld 4 rfl rfl ?_|refine hs.ld 5 rfl rfl ?_|refine hs.ld 6 rfl rfl ?_|refine hs.ld 7 rfl rfl ?_|refine hs.ld 8 rfl rfl ?_
 try simp only[HV]
 refine Za.use (eZn k sec s H) ?_
 try simp only[HV]
 refine hs.nw fun b2 H hs=>?_
 refine hs.stw 2 rfl rfl (kZh _ _ _) (oZ5 _ _ _) fun H hs=>?_;have hr:=hs.fin 0 rfl (.bool (aZX k sec s ar));by_cases h:0≤k∧k≤32∧0<ZP s∧(cZa k.toNat (ZP s):Int)≤sec
 ·have:(OfV k sec s).2=0:=by unfold OfV;rw[if_pos (by omega),if_neg (by omega)]
  rw[this];refine aZt rfl ?_
  first|refine hs.ld 1 rfl rfl ?_|refine hs.ld 2 rfl rfl ?_|refine hs.ld 3 rfl rfl ?_|refine hs.ld 4 rfl rfl ?_|refine hs.ld 5 rfl rfl ?_|refine hs.ld 6 rfl rfl ?_|refine hs.ld 7 rfl rfl ?_|refine hs.ld 8 rfl rfl ?_
  try simp only[HV]
  by_cases h2:ar≥1
  ·refine Zn h2 ?_
   first|refine hs.ld 1 rfl rfl ?_|refine hs.ld 2 rfl rfl ?_|refine hs.ld 3 rfl rfl ?_|refine hs.ld 4 rfl rfl ?_|refine hs.ld 5 rfl rfl ?_|refine hs.ld 6 rfl rfl ?_|refine hs.ld 7 rfl rfl ?_|refine hs.ld 8 rfl rfl ?_
   try simp only[HV]
   have:decide (ar≤16777216)=aZX k sec s ar:=by unfold aZX;simp only[decide_eq_decide];omega
   rw[this];exact hr
  ·refine Zh h2 ?_;have:false=aZX k sec s ar:=by unfold aZX;symm;simp only[decide_eq_false_iff_not];omega
   rw[this];exact hr
 ·refine aZb ?_ ?_
  ·have:(OfV k sec s).2=1∨(OfV k sec s).2=7:=by
    unfold OfV;split
    ·rw[if_pos (by omega)];exact .inr rfl
    ·exact .inl rfl
   rcases this with e|e<;>rw[e]<;>rfl
  ·have:false=aZX k sec s ar:=by unfold aZX;symm;simp only[decide_eq_false_iff_not];omega
   rw[this];exact hr
def cZq (s:Int):Int:=if s=32 then 5 else if s=64 then 6 else if s=128 then 7 else if s=256 then 8 else if s=512 then 9 else if s=1024 then 10 else if s=2048 then 11 else if s=4096 then 12 else -1
theorem hZ8 (s:Int):(0<ZP s∧s=8*ZP s∧5≤cZq s∧cZq s≤12∧ZP s=2^(cZq s-3).toNat)∨(ZP s=0∧cZq s=-1):=by
 unfold ZP cZq
 repeat' split
 all_goals first|(subst_vars;left;decide)|(right;exact⟨rfl,rfl⟩)
end Go.Proofs.YtgfildcgihbdaaaGreatDoor.Sup
namespace Go.Proofs.YtgfildcgihbdaaaGreatDoor.Rec
open Go Go.Hw Go.Form Go.Crc W FormP
theorem kZF (s:Int):secB s=true↔0<Lay.ZP s:=by
 unfold secB Lay.gZm;by_cases h:0<Lay.ZP s
 ·rw[if_pos ⟨by omega,by omega,h⟩];simp[h]
 ·rw[if_neg (fun g=>h g.2.2)];simp[h]
theorem uZ4 {s:Int}(h:secB s=true):32≤s∧s≤4096:=by
 rw[kZF]at h;refine⟨Int.not_lt.1 fun g=>?_,Int.not_lt.1 fun g=>?_⟩
 ·rw[Lay.iZy g]at h;omega
 ·rw[Lay.iZx g]at h;omega
theorem wZu {p q:Nat}(hp:p<4294967296)(hq:q<4294967296):aZ8 0 [(p,32),(q,0)]=p*4294967296+q:=by
 show(0|||(p*2^32%2^64))|||(q*2^0%2^64)=_
 rw[Nat.zero_or,Nat.mod_eq_of_lt (by omega),Nat.pow_zero,Nat.mul_one,Nat.mod_eq_of_lt (by omega),Nat.mul_comm p,←Nat.two_pow_add_eq_or_of_lt (i:=32) hq p]
end Go.Proofs.YtgfildcgihbdaaaGreatDoor.Rec
namespace Go.Proofs.YtgfildcgihbdaaaGreatDoor.Rec
open Go Go.Hw Go.Form Go.Crc W FormP
theorem jZd {w q:Nat}(k:Nat)(hw:2^k∣w)(hq:q<2^k):w|||q=w+q:=by
 obtain⟨t,rfl⟩:=hw;exact(Nat.two_pow_add_eq_or_of_lt hq t).symm
theorem rZN (r:R)(hg:r.good):aZ8 0 r.p1=5928144484503126016+r.s:=by
 obtain⟨g1,g2,_⟩:=hg;show(0|||(21061*2^48%2^64))|||(r.s*2^0%2^64)=_
 rw[Nat.zero_or,Nat.pow_zero,Nat.mul_one,Nat.mod_eq_of_lt (show r.s<2^64 by omega),jZd 48 ⟨21061,by decide⟩ (by omega)]
theorem vZ5 (r:R)(hu:r.u32):aZ8 0 r.p3=r.inp*4294967296+r.out:=wZu hu.inp hu.out
theorem vZ4 (r:R)(hg:r.good)(hu:r.u32):aZ8 0 r.p2=r.ld*4294967296+r.ps.toNat*16777216+r.kk.toNat*65536+r.dir.toNat*256+r.kd.toNat:=by
 obtain⟨g1,g2,g3,g4,g5,g6⟩:=hg;have hu:=hu.ld;have h1:r.ps.toNat<256:=by omega
 have h2:r.kk.toNat<256:=by omega
 have h3:r.dir.toNat<256:=by omega
 have h4:r.kd.toNat<256:=by omega
 show((((0|||(r.ld*2^32%2^64))|||(r.ps.toNat*2^24%2^64))|||(r.kk.toNat*2^16%2^64))|||(r.dir.toNat*2^8%2^64))|||(r.kd.toNat*2^0%2^64)=_
 generalize r.ps.toNat=a at*;generalize r.kk.toNat=b at*;generalize r.dir.toNat=c at*;generalize r.kd.toNat=d at*;generalize r.ld=l at*;rw[Nat.zero_or,Nat.mod_eq_of_lt (show l*2^32<2^64 by omega),Nat.mod_eq_of_lt (show a*2^24<2^64 by omega),Nat.mod_eq_of_lt (show b*2^16<2^64 by omega),Nat.mod_eq_of_lt (show c*2^8<2^64 by omega),Nat.pow_zero,Nat.mul_one,Nat.mod_eq_of_lt (show d<2^64 by omega)];rw[jZd 32 ⟨l,Nat.mul_comm _ _⟩ (show a*2^24<2^32 by omega),jZd 24 ⟨l*256+a,by omega⟩ (show b*2^16<2^24 by omega),jZd 16 ⟨(l*256+a)*256+b,by omega⟩ (show c*2^8<2^16 by omega),jZd 8 ⟨((l*256+a)*256+b)*256+c,by omega⟩ (show d<2^8 by omega)]
end Go.Proofs.YtgfildcgihbdaaaGreatDoor.Rec
namespace Go.Proofs.YtgfildcgihbdaaaGreatDoor.Rec
open Go Go.Hw Go.Form Go.Crc W FormP
structure R.wf (r:R):Prop where
 s:r.s<2^64
 kd: -9223372036854775808≤r.kd∧r.kd≤9223372036854775807
 kk: -9223372036854775808≤r.kk∧r.kk≤9223372036854775807
 dir: -9223372036854775808≤r.dir∧r.dir≤9223372036854775807
 ps: -9223372036854775808≤r.ps∧r.ps≤9223372036854775807
 u:r.u32
end Go.Proofs.YtgfildcgihbdaaaGreatDoor.Rec
namespace Go.Proofs.YtgfildcgihbdaaaGreatDoor.Rec
open Go Go.Hw Go.Form Go.Crc W FormP
def R.form (r:R)(size:Nat):List UInt8:=Form.form r.w4++List.replicate (size-32) 0
theorem jZG (r:R):(Form.form r.w4).length=32:=by rw[aZ0];rfl
theorem jZj (r:R){size:Nat}(h:32≤size):(r.form size).length=size:=by
 unfold R.form;rw[List.length_append,jZG,List.length_replicate];omega
theorem oZo (r:R)(size:Nat):fZ2 (r.form size)=true:=by
 unfold fZ2 R.form;refine decide_eq_true fun x hx=>?_
 rw[List.drop_append,jZG,Nat.sub_self,List.drop_eq_nil_of_le (by rw[jZG];exact Nat.le_refl _),List.nil_append,List.drop_zero]at hx;exact(List.mem_replicate.1 hx).2
theorem uZZ (r:R)(hg:r.good)(hu:r.u32):hZQ (aZ8 0 r.p1) (aZ8 0 r.p2) (aZ8 0 r.p3)=r:=by
 rw[rZN r hg,vZ4 r hg hu,vZ5 r hu];obtain⟨g1,g2,g3,g4,g5,g6⟩:=hg;obtain⟨u1,u2,u3⟩:=hu;obtain⟨s,kd,kk,dir,ps,ld,inp,out⟩:=r;simp only at*;unfold hZQ;congr 1<;>omega
theorem oZU (r:R)(size:Nat):Zs (r.form size) 0=aZ8 0 r.p1∧Zs (r.form size) 8=aZ8 0 r.p2∧Zs (r.form size) 16=aZ8 0 r.p3∧Zs (r.form size) 24=aZ8 0 (gZF r.w3):=by
 have h4:r.w4.length=4:=rfl;have w0:=eZS (l:=r.w4) (i:=0) (by omega) (List.replicate (size-32) 0);have w1:=eZS (l:=r.w4) (i:=1) (by omega) (List.replicate (size-32) 0);have w2:=eZS (l:=r.w4) (i:=2) (by omega) (List.replicate (size-32) 0);have w3:=eZS (l:=r.w4) (i:=3) (by omega) (List.replicate (size-32) 0);refine⟨w0.trans ?_,w1.trans ?_,w2.trans ?_,w3.trans ?_⟩
 ·exact UInt64.toNat_ofNat_of_lt' (dZ6 r.p1 0 (by decide))
 ·exact UInt64.toNat_ofNat_of_lt' (dZ6 r.p2 0 (by decide))
 ·exact UInt64.toNat_ofNat_of_lt' (dZ6 r.p3 0 (by decide))
 ·exact UInt64.toNat_ofNat_of_lt' (dZ6 (gZF r.w3) 0 (by decide))
theorem qZs (r:R)(hg:r.good)(hu:r.u32){size:Nat}(h32:32≤size)(hs:secB (size:Int)=true):aZW (r.form size)=(r,0):=by
 obtain⟨w0,w1,w2,w3⟩:=oZU r size;have hU:w3U (r.form size)=r.w3:=by
  unfold w3U;rw[w0,w1,w2];rfl
 have hr:=uZZ r hg hu;have hm:aZ8 0 r.p1/281474976710656=21061:=by
  have:=rZN r hg;have:=hg.1;have:=hg.2.1;omega
 unfold aZW;rw[jZj r h32,if_pos hs,hU,w0,w1,w2,w3,hr,if_pos ⟨hm,oZo r size⟩,if_pos rfl,if_pos hg]
end Go.Proofs.YtgfildcgihbdaaaGreatDoor.Rec
namespace Go.Proofs.YtgfildcgihbdaaaGreatDoor.Rng
open Go Go.Hw W Rec Srt Dsk
def ZZ (p:Nat)(f n w:Int):AO:=.obj (.cells #[.int .i64 f,.int .i64 n,.int .i64 w,.pointer (some ⟨p,0,none⟩)] 146)
def lZR (d:D)(f n:Int):Bool:=decide (2≤n∧0≤f∧f<d.sec∧n≤d.sec-f)
def lZK (p:Nat)(d:D)(f n w:Int)(v:Value)(M:List As):Prop:=
 (lZR d f n=true∧∃ b,v= .tuple #[.pointer (some ⟨b,0,none⟩),.int .i64 0]∧M=[Dk p d,pts b (ZZ p f n w)])∨(lZR d f n=false∧v= .tuple #[.pointer none,.int .i64 2]∧M=[Dk p d])
theorem lZK.yes {p:Nat}{d:D}{f n w:Int}(h:lZR d f n=true)(b:Nat):lZK p d f n w (.tuple #[.pointer (some ⟨b,0,none⟩),.int .i64 0]) [Dk p d,pts b (ZZ p f n w)]:=.inl ⟨h,b,rfl,rfl⟩
theorem lZK.no {p:Nat}{d:D}{f n w:Int}(h:lZR d f n=false):lZK p d f n w (.tuple #[.pointer none,.int .i64 2]) [Dk p d]:=.inr ⟨h,rfl,rfl⟩
theorem dZM {p:Nat}{d:D}(hok:Ok d)(f n w:Int)(hf: -9223372036854775808≤f∧f≤9223372036854775807):
  Tr Tryz.prog 72 #[.pointer (some ⟨p,0,none⟩),.agg #[.int .i64 f,.int .i64 n,.int .i64 w]] [Dk p d] (lZK p d f n w):=fun H hs=>by
 have hsec:=hok.sec;apply gZ2.ok;unfold gZ2;refine hs.nw fun b1 H hs=>?_
 have hs:Hw.Sep [Dk p d,pts b1 (.obj (.cells #[.int .i64 f,.int .i64 n,.int .i64 w] 87))] H:=hs;have bad:lZR d f n=false→∃ M,lZK p d f n w (.tuple #[.pointer none,.int .i64 2]) M∧Hw.Sep M H:=fun h=>⟨_,.no h,hs.re [0] rfl⟩
 refine aZb rfl ?_;refine hs.ldf 1 rfl rfl ?_;simp only[HV];by_cases h1:n<2
 ·exact Zn h1 (bad (decide_eq_false (by omega)))
 refine Zh h1 ?_;refine hs.ldf 1 rfl rfl ?_;simp only[HV];by_cases h2:f<0
 ·exact Zn h2 (bad (decide_eq_false (by omega)))
 refine Zh h2 ?_;refine hs.ldf 1 rfl rfl ?_;simp only[HV];refine ZM.use (eZs hs 0 rfl) ?_;simp only[HV];by_cases h3:f≥(d.sec:Int)
 ·exact Zn h3 (bad (decide_eq_false (by omega)))
 refine Zh h3 ?_;refine hs.ldf 1 rfl rfl ?_;simp only[HV];refine ZM.use (eZs hs 0 rfl) ?_;simp only[HV];refine hs.ldf 1 rfl rfl ?_;simp only[HV];rw[ZL (x:=(d.sec:Int)-f) (by omega) (by omega)];by_cases h4:n>(d.sec:Int)-f
 ·exact Zn h4 (bad (decide_eq_false (by omega)))
 refine Zh h4 ?_
 first|refine hs.ldw 1 rfl rfl ?_
 try simp only[HV]
 refine hs.nw fun b2 H hs=>?_
 exact⟨_,.yes (decide_eq_true (by omega)) b2,hs.re [0,2] rfl⟩
def aZN (f n s:Nat):Nat:=f+(s-1)%n
theorem pZC {L:List As}{H:Hp}(hs:Hw.Sep L H)(i:Nat){b p f n:Nat}{w:Int}(hi:L[i]? =some (pts b (ZZ p f n w)))(hf:f≤1048576)(hn:1≤n)(hn2:n≤1048576)(s:Nat)(h1:1≤s)(h2:s<18446744073709551616):
  Za Tryz.prog 111 #[.pointer (some ⟨b,0,none⟩),.int .u64 (s:Int)] H (RetE (.int .i64 (aZN f n s:Int)) H):=by
 apply dZ1.ok;unfold dZ1;simp only[HS];refine hs.ld i hi rfl ?_;simp only[HV]
 try simp only[HS]
 refine hs.ld i hi rfl ?_;simp only[HV];have hm:(s-1)%n<n:=Nat.mod_lt _ (by omega);rw[bZ6 (by omega),eZc (x:=(s:Int)-1) (by omega) (by omega),show(s:Int)-1=((s-1:Nat):Int) by omega,show Int.tmod ((s-1:Nat):Int) (n:Int)=(((s-1)%n:Nat):Int)from rfl,aZy (by omega),ZL (by omega) (by omega)];refine⟨by omega,by simp,?_⟩;unfold aZN;exact RetE.of (by rw[Int.natCast_add])
end Go.Proofs.YtgfildcgihbdaaaGreatDoor.Rng
namespace Go.Proofs.YtgfildcgihbdaaaGreatDoor.Rng
open Go Go.Hw W Rec Srt Dsk
def eZR (f n:Nat)(bs:List UInt8)(i:Nat):List R:=if(aZW bs).2=0∧aZN f n (aZW bs).1.s=f+i then [(aZW bs).1]else []
def D.red (d:D):D:={ d.burnt with rd:=d.rd+1}
theorem Ok.red {d:D}(hok:Ok d):Ok (D.red d):=⟨hok.burnt.sec,hok.burnt.size,hok.burnt.big,hok.burnt.per,hok.burnt.safe,hok.burnt.cache,hok.burnt.fz⟩
def cZI (f n:Nat):Nat→Nat→D→List R→Int×D×List R
 |0,_,d,acc=>(0,d,acc)
 |k+1,i,d,acc=>if d.chk ((f+i:Nat):Int)≠0 then(d.chk ((f+i:Nat):Int),d,[])else if d.burns=true then(8,d.burnt,[])else cZI f n k (i+1) (D.red d) (acc++eZR f n (d.now ((f+i:Nat):Int)) i)
def kZT (b p f n:Nat)(w:Int)(r:Int×D×List R)(v:Value)(M:List As):Prop:=
 ∃ A m,v= .tuple #[.slice A r.2.2.length m,.int .i64 r.1]∧M=[Dk p r.2.1,pts b (ZZ p f n w),Own 102 8 A r.2.2.length m (cZc (bZT r.2.2 (r.2.2.length-1)))]∧r.2.2.length≤m
theorem qZt {bs:List UInt8}(h:(aZW bs).2=0):(aZW bs).1.good:=by
 unfold aZW at h⊢;split at h
 ·rename_i h1
  rw[if_pos h1];split at h
  ·rename_i h2
   rw[if_pos h2];split at h
   ·rename_i h3
    rw[if_pos h3];split at h
    ·rename_i h4
     rw[if_pos h4];exact h4
    ·cases h
   ·cases h
  ·cases h
 ·cases h
theorem sZT :bZe Tryz.prog 102=some (8,56,some #[.int .u64 0,.int .i64 0,.int .i64 0,.int .i64 0,.int .i64 0,.int .u32 0,.int .u32 0,.int .u32 0]):=by kernel_rfl
theorem qZd {L:List As}{H:Hp}(h:Hw.Sep L H):Hw.Sep (L++[Own 102 8 none 0 0 []]) H:=by
 have:Hw.Sep (Own 102 8 none 0 0 []::L) H:=⟨fun _=>none,H,fun _ _ h=>(nomatch h),Hp.le_refl _,fun _=>.inl rfl,Own.none _ _ _,h⟩;exact Hw.Sep.perm (List.perm_append_comm (l₁:=[_])) this
theorem iZR (b p f n:Nat)(w:Int)(hn:1≤n)(hfn:f+n≤1048576)(r:Int×D×List R)(hr12:r.1=0→r.2.2.length≤12):
  ∀(t i:Nat) (d:D) (acc:List R) (A:OA) (m:Nat) (H:Hp),i+t=n→Ok d→d.rd+t≤1000000→acc.length≤i→acc.length≤m→r=cZI f n t i d acc→
   Hw.Sep [Dk p d,pts b (ZZ p f n w),Own 102 8 A acc.length m (cZc acc)] H→
   ZK.l2 (fun v H'=>∃ M,kZT b p f n w r v M∧Hw.Sep M H') (t+1) (some ⟨b,0,none⟩) A acc.length m (n:Int) (i:Int) H
 |0,i,d,acc,A,m,H,hi,hok,hrd,hacc,hm,hr,hs=>by
  unfold ZK.l2;refine Zh (by omega) ?_;have hr:r=(0,d,acc):=hr;have h12:=hr12 (by rw[hr]);rw[hr]at h12;refine(oZL A acc.length m h12 acc rfl).use hs [2] rfl rfl ?_;rintro _ _ H1 ⟨rfl,rfl⟩ hs;rw[hr];exact⟨_,⟨A,m,rfl,rfl,hm⟩,hs.re [1,2,0] rfl⟩
 |t+1,i,d,acc,A,m,H,hi,hok,hrd,hacc,hm,hr,hs=>by
  unfold ZK.l2;refine Zn (by omega) ?_;have hj5:∀(H:Hp) (v:Value) (M:List As),tZ1 p d ((f+i:Nat):Int) v M→Hw.Sep (M++[pts b (ZZ p f n w),Own 102 8 A acc.length m (cZc acc)]) H→
    bZq v fun l1=>Zl l1 fun v5 l2=>DSl v5 fun A2 n2 m2=>Zl l2 fun v6 l3=>DI .i64 v6 fun x5=>ZR l3 (ZK.j5 (fun v H'=>∃ M,kZT b p f n w r v M∧Hw.Sep M H') (ZK.l2 (fun v H'=>∃ M,kZT b p f n w r v M∧Hw.Sep M H') (t+1)) (some ⟨b,0,none⟩) A acc.length m (i:Int) A2 n2 m2 x5 (n:Int) (i:Int) H):=by
   rintro H _ _ (⟨hc,rfl,rfl⟩|⟨hc,hb,rfl,rfl⟩|⟨hc,hb,b2,c,mm,rfl,hcc,rfl⟩) hs
   ·simp only[HV];unfold ZK.j5;refine ZB hc ?_;unfold cZI at hr;rw[if_pos hc]at hr;rw[hr];have hs:=qZd hs;exact⟨_,⟨none,0,rfl,rfl,Nat.le_refl _⟩,hs.re [0,1,3] rfl⟩
   ·simp only[HV];unfold ZK.j5;refine ZB (by decide) ?_;unfold cZI at hr;rw[if_neg (by omega),if_pos hb]at hr;rw[hr];have hs:=qZd hs;exact⟨_,⟨none,0,rfl,rfl,Nat.le_refl _⟩,hs.re [0,1,3] rfl⟩
   ·simp only[HV];unfold ZK.j5;refine Zq rfl ?_;have hs:Hw.Sep [Dk p (D.red d),pts b2 (.row (Zm (d.now ((f+i:Nat):Int))) 5 mm),pts b (ZZ p f n w),Own 102 8 A acc.length m (cZc acc)] H:=hs;unfold cZI at hr;rw[if_neg (by omega),if_neg (by simp[hb])]at hr;have hnow:=hok.now ((f+i:Nat):Int);have hsz:=hok.size;generalize d.now ((f+i:Nat):Int)=bs at*;have hcell:Cells H (some ⟨b2,0,none⟩) (Zm bs):=by
     have:=Cells.row (hs.get 1 (b:=b2) (o:=.row (Zm bs) 5 mm) rfl) 0 d.size;rw[List.drop_zero,List.take_of_length_le (by rw[ZJ];omega)]at this;exact this
    refine Za.use (hZ4 (some ⟨b2,0,none⟩) d.size c bs hnow.symm hcc (by omega) (fun _=>hsz.1) H hcell) ?_;simp only[HV];have hg:=qZt (bs:=bs);have hst:eZR f n bs i=if(aZW bs).2=0∧aZN f n (aZW bs).1.s=f+i then [(aZW bs).1]else []:=rfl
    generalize aZW bs=tv at*;obtain⟨q,e⟩:=tv;simp only at hg hst;refine hs.nw fun b3 H hs=>?_
    refine hs.stw 4 (y:=q.c) rfl rfl rfl (eZP q) fun H hs=>?_;have hs:Hw.Sep [Dk p (D.red d),pts b2 (.row (Zm bs) 5 mm),pts b (ZZ p f n w),Own 102 8 A acc.length m (cZc acc),pts b3 (.obj (.cells q.c 102))] H:=hs;have hred:(D.red d).rd=d.rd+1:=rfl;have next:∀ H,eZR f n bs i=[]→Hw.Sep [Dk p (D.red d),pts b (ZZ p f n w),Own 102 8 A acc.length m (cZc acc)] H→
      ZK.l2 (fun v H'=>∃ M,kZT b p f n w r v M∧Hw.Sep M H') (t+1) (some ⟨b,0,none⟩) A acc.length m (n:Int) (i64.wrap ((i:Int)+1)) H:=fun H h0 hs=>by
     rw[ZL (x:=(i:Int)+1) (by omega) (by omega)];rw[h0,List.append_nil]at hr;exact iZR b p f n w hn hfn r hr12 t (i+1) (D.red d) acc A m H (by omega) (Ok.red hok) (by rw[hred];omega) (by omega) hm hr hs
    by_cases he:e=0
    ·have hgood:=hg he;obtain⟨s1,s2,_⟩:=hgood;refine ZV he ?_;refine hs.ldf 4 rfl rfl ?_;simp only[HV];refine ZM.use (pZC hs 2 rfl (by omega) hn (by omega) q.s s1 (by omega)) ?_;simp only[HV]
     try simp only[HS]
     refine hs.ld 2 rfl rfl ?_;simp only[HV];rw[ZL (x:=(f:Int)+(i:Int)) (by omega) (by omega)];by_cases hsl:aZN f n q.s=f+i
     ·refine ZV (by omega) ?_;rw[if_pos ⟨he,hsl⟩]at hst;refine hs.ldw 4 rfl rfl ?_;unfold R.c;simp only[HV];refine qZR (x:=fun b=>.slice (some ⟨b,0,none⟩) 1 1) ?_;refine hs.appS 3 rfl sZT rfl (by omega) (by omega) rfl rfl (by omega) (by omega) fun A' m' H hs hcap=>?_
      have hm':=hcap _ _ _ rfl;simp only[HV];rw[ZL (x:=(i:Int)+1) (by omega) (by omega)];rw[hst]at hr;have hlen:(acc++[q]).length=acc.length+1:=by simp
      have ih:=iZR b p f n w hn hfn r hr12 t (i+1) (D.red d) (acc++[q]) A' m' H (by omega) (Ok.red hok) (by rw[hred];omega) (by omega) (by rw[hlen];exact hm') hr;rw[hlen]at ih;refine ih ?_;have e1:cZc (acc++[q])=cZc acc++q.c.toList:=by simp[cZc]
      rw[e1];exact hs.re [0,2,3] rfl
     ·refine aZd (by omega) ?_;rw[if_neg (fun h=>hsl h.2)]at hst;exact next H hst (hs.re [0,2,3] rfl)
    ·refine aZd he ?_;rw[if_neg (fun h=>he h.1)]at hst;exact next H hst (hs.re [0,2,3] rfl)
  try simp only[HS]
  have hw:i64.wrap ((f:Int)+(i:Int))=((f+i:Nat):Int):=by rw[ZL (by omega) (by omega)];omega
  have hR:=jZC (p:=p) (d:=d) hok (by omega) ((f+i:Nat):Int);refine⟨?_,?_⟩
  ·refine hs.ld 1 rfl rfl ?_;simp only[HV]
   try simp only[HS]
   refine hs.ld 1 rfl rfl ?_;simp only[HV];rw[hw];refine hR.use hs [0] rfl rfl ?_;intro v M H1 hq hs;exact hj5 H1 v M hq hs
  ·refine hs.ld 1 rfl rfl ?_;simp only[HV]
   try simp only[HS]
   refine hs.ld 1 rfl rfl ?_;simp only[HV];rw[hw];refine hR.use hs [0] rfl rfl ?_;intro v M H1 hq hs;exact hj5 H1 v M hq hs
end Go.Proofs.YtgfildcgihbdaaaGreatDoor.Rng
namespace Go.Proofs.YtgfildcgihbdaaaGreatDoor.Rng
open Go Go.Hw W Rec Srt Dsk
theorem rZ9 (f n:Nat)(bs:List UInt8)(i:Nat):(eZR f n bs i).length≤1:=by unfold eZR;split<;>simp
theorem jZl (f n:Nat):∀(k i:Nat) (d:D) (acc:List R),(cZI f n k i d acc).2.2.length≤acc.length+k
 |0,_,_,_=>Nat.le_refl _
 |k+1,i,d,acc=>by
  unfold cZI;split
  ·exact Nat.zero_le _
  ·split
   ·exact Nat.zero_le _
   ·have h1:=jZl f n k (i+1) (D.red d) (acc++eZR f n (d.now ((f+i:Nat):Int)) i);have h2:=rZ9 f n (d.now ((f+i:Nat):Int)) i;rw[List.length_append]at h1;omega
theorem mZL (f n:Nat):∀(k i:Nat) (d:D) (acc:List R),(cZI f n k i d acc).1≠0→(cZI f n k i d acc).2.2=[]
 |0,_,_,_,h=>absurd rfl h
 |k+1,i,d,acc,h=>by
  unfold cZI at h⊢;by_cases h1:d.chk ((f+i:Nat):Int)≠0
  ·rw[if_pos h1]
  ·rw[if_neg h1]at h⊢;by_cases h2:d.burns=true
   ·rw[if_pos h2]
   ·rw[if_neg h2]at h⊢;exact mZL f n k (i+1) _ _ h
def aZO (f n:Nat)(d:D):Int×D×List R:=cZI f n n 0 d []
theorem uZl {b p f n:Nat}{w:Int}{d:D}(hn:1≤n)(hfn:f+n≤1048576)(hok:Ok d)(hrd:d.rd+n≤1000000)(h12:(aZO f n d).1=0→(aZO f n d).2.2.length≤12):
  Tr Tryz.prog 93 #[.pointer (some ⟨b,0,none⟩)] [Dk p d,pts b (ZZ p f n w)] (kZT b p f n w (aZO f n d)):=fun H hs=>by
 apply ZK.ok;unfold ZK
 try simp only[HS]
 refine hs.ld 1 rfl rfl ?_;simp only[HV];exact⟨n+1,iZR b p f n w hn hfn _ h12 n 0 d [] none 0 H (by omega) hok hrd (Nat.le_refl _) (Nat.le_refl _) rfl (qZd hs)⟩
def dZ7 (r:Int×D×List R):Option R:=(bZT r.2.2 (r.2.2.length-1)).getLast?
def tZN (b p f n:Nat)(w:Int)(r:Int×D×List R)(v:Value)(M:List As):Prop:=
 v= .tuple #[.agg ((dZ7 r).getD aZ9).c,.bool (dZ7 r).isSome,.int .i64 r.1]∧M=[Dk p r.2.1,pts b (ZZ p f n w)]
theorem oZ3 {b p f n:Nat}{w:Int}{d:D}(hn:1≤n)(hfn:f+n≤1048576)(hok:Ok d)(hrd:d.rd+n≤1000000)(h12:(aZO f n d).1=0→(aZO f n d).2.2.length≤12):
  Tr Tryz.prog 65 #[.pointer (some ⟨b,0,none⟩)] [Dk p d,pts b (ZZ p f n w)] (tZN b p f n w (aZO f n d)):=fun H hs=>by
 apply bZH.ok;unfold bZH bZH.q1;refine hs.nw fun b1 H hs=>?_
 have herr:=mZL f n n 0 d [];have hlen:=eZw ((aZO f n d).2.2.length-1) (aZO f n d).2.2;refine(uZl (b:=b) (p:=p) (w:=w) hn hfn hok hrd h12).use hs [0,1] rfl rfl ?_;rintro _ _ H1 ⟨A,m,rfl,rfl,_⟩ hs;change (aZO f n d).1≠0→(aZO f n d).2.2=[]at herr;unfold tZN dZ7;generalize aZO f n d=r at*;obtain⟨e,d',l⟩:=r;simp only at hlen herr h12 hs⊢;simp only[HV];have hs:Hw.Sep [Dk p d',pts b (ZZ p f n w),Own 102 8 A l.length m (cZc (bZT l (l.length-1))),pts b1 (.obj (.cells #[.int .u64 0,.int .i64 0,.int .i64 0,.int .i64 0,.int .i64 0,.int .u32 0,.int .u32 0,.int .u32 0] 102))] H1:=hs;have zero:l=[]→∀ H,Hw.Sep [Dk p d',pts b (ZZ p f n w),Own 102 8 A l.length m (cZc (bZT l (l.length-1))),pts b1 (.obj (.cells #[.int .u64 0,.int .i64 0,.int .i64 0,.int .i64 0,.int .i64 0,.int .u32 0,.int .u32 0,.int .u32 0] 102))] H→
   StA H ⟨b1,0,none⟩ #[.int .u64 0,.int .i64 0,.int .i64 0,.int .i64 0,.int .i64 0,.int .u32 0,.int .u32 0,.int .u32 0] 8 fun H3=>LdA H3 ⟨b1,0,none⟩ 8 fun l5=>∃ M,((Value.tuple #[.agg l5.toArray,.bool false,.int .i64 e])= .tuple #[.agg (((bZT l (l.length-1)).getLast?).getD aZ9).c,.bool ((bZT l (l.length-1)).getLast?).isSome,.int .i64 e]∧M=[Dk p d',pts b (ZZ p f n w)])∧Hw.Sep M H3:=fun h0 H hs=>by
  subst h0;refine hs.stw 3 rfl rfl rfl rfl fun H hs=>hs.ldw 3 rfl rfl ?_
  exact⟨_,⟨rfl,rfl⟩,hs.re [0,1] rfl⟩
 by_cases he:e≠0
 ·refine ZB he ?_;exact zero (herr he) _ hs
 ·have he0:e=0:=by omega
  refine Zq he0 ?_;by_cases hl:l=[]
  ·refine ZV (by rw[hl];rfl) ?_;exact zero hl _ hs
  ·have hp:0<l.length:=List.length_pos_iff.2 hl;refine aZd (by omega) ?_;have ei:i64.wrap ((l.length:Int)-1)=((l.length-1:Nat):Int):=by
    have h12':=h12 he0;rw[ZL (by omega) (by omega)];omega
   rw[ei];have hlt:l.length-1<(bZT l (l.length-1)).length:=by omega
   refine(hs.own 2 rfl).rdA rfl (by omega) (hZy _ (l.length-1) hlt) ?_;rw[Array.toArray_toList];refine hs.stw 3 rfl rfl rfl (eZP _) fun H hs=>hs.ldw 3 rfl rfl ?_
   rw[Array.toArray_toList];have hgl:(bZT l (l.length-1)).getLast? =some (bZT l (l.length-1))[l.length-1]:=by
    rw[List.getLast?_eq_getElem?,hlen,List.getElem?_eq_getElem hlt]
   rw[hgl,he0];exact⟨_,⟨rfl,rfl⟩,hs.re [0,1] rfl⟩
end Go.Proofs.YtgfildcgihbdaaaGreatDoor.Rng
namespace Go.Proofs.YtgfildcgihbdaaaGreatDoor.Rec
open Go Go.Hw Go.Form Go.Crc W FormP
theorem nZz (r:R)(x:Int)(h:¬(r.good∧secB x=true))(H:Hp):Za Tryz.prog 109 #[.agg r.c,.int .i64 x] H (RetE (.tuple #[.slice none 0 0,.int .i64 1]) H):=Za.ret (by
 apply dZN.ok;unfold dZN;refine(Sep.start H).nw fun b1 H1 hs=>?_
 have hs:Sep [own H,pts b1 (bZu r)] H1:=hs;refine hs.ldw 1 rfl rfl ?_;refine Za.use (bZK r H1) ?_;simp only[HV];by_cases hg:r.good
 ·rw[decide_eq_true hg];refine aZb rfl ?_;refine Za.use (hZS x H1) ?_;rw[show secB x=false by simpa using fun g=>h ⟨hg,g⟩];simp only[HV];exact hs.fin 0 rfl _
 ·rw[decide_eq_false hg];exact aZt rfl (hs.fin 0 rfl _))
theorem jZN (r:R){size:Nat}(h32:32≤size):setAt (aZq [Value.int .u8 0] size) 0 (Zm (Form.form r.w4))=Zm (r.form size):=by
 rw[bZA];unfold setAt R.form;rw[List.take_zero,List.nil_append,Nat.zero_add,ZJ,jZG,List.drop_replicate];unfold Zm;rw[List.map_append,List.map_replicate];rfl
end Go.Proofs.YtgfildcgihbdaaaGreatDoor.Rec
namespace Go.Proofs.YtgfildcgihbdaaaGreatDoor.Rng
open Go Go.Hw W Rec Srt Dsk
theorem oZq (f n:Nat):∀(k i:Nat) (d:D) (acc:List R),Ok d→Ok (cZI f n k i d acc).2.1∧(cZI f n k i d acc).2.1.wr=d.wr∧(cZI f n k i d acc).2.1.sy=d.sy∧(cZI f n k i d acc).2.1.size=d.size∧(cZI f n k i d acc).2.1.sec=d.sec
 |0,_,d,_,h=>⟨h,rfl,rfl,rfl,rfl⟩
 |k+1,i,d,acc,h=>by
  have hb:=bZW d;unfold cZI;split
  ·exact⟨h,rfl,rfl,rfl,rfl⟩
  ·split
   ·exact⟨h.burnt,hb.2.1,hb.2.2.1,hb.2.2.2.1,hb.2.2.2.2.1⟩
   ·obtain⟨h1,h2,h3,h4,h5⟩:=oZq f n k (i+1) (D.red d) (acc++eZR f n (d.now ((f+i:Nat):Int)) i) (Ok.red h);exact⟨h1,h2.trans hb.2.1,h3.trans hb.2.2.1,h4.trans hb.2.2.2.1,h5.trans hb.2.2.2.2.1⟩
def lZ1 (f n:Nat)(d:D)(r:R):Int×D:=
 if d.writeE (aZN f n r.s) d.size≠0 then(d.writeE (aZN f n r.s) d.size,d.writeD (aZN f n r.s) (r.form d.size))
 else((d.writeD (aZN f n r.s) (r.form d.size)).syncE,(d.writeD (aZN f n r.s) (r.form d.size)).syncD)
def cZy (q:Option R)(r:R):Bool:=match q with|some q=>decide (after q r)|none=>decide (r.s=1∧r.kd=1)
def eZU (f n:Nat)(d:D)(r:R):Int×D:=
 if ¬r.good then(10,d)else if(aZO f n d).1≠0 then((aZO f n d).1,(aZO f n d).2.1)
 else if cZy (dZ7 (aZO f n d)) r=false then(5,(aZO f n d).2.1)else lZ1 f n (aZO f n d).2.1 r
def iZm (b p f n:Nat)(w:Int)(r:Int×D)(v:Value)(M:List As):Prop:=v= .int .i64 r.1∧M=[Dk p r.2,pts b (ZZ p f n w)]
theorem wZt {b p f n:Nat}{w:Int}(hn:1≤n)(hfn:f+n≤1048576){d:D}(hok:Ok d)(hw:d.wr≤1000000∧d.sy≤1000000)(r:R)(hg:r.good)(b1 b2 mm:Nat)(H:Hp)
  (hs:Hw.Sep [Dk p d,pts b (ZZ p f n w),pts b1 (bZu r),pts b2 (.row (Zm (r.form d.size)) 5 mm)] H):
  ZF.j9 (fun v H'=>∃ M,iZm b p f n w (lZ1 f n d r) v M∧Hw.Sep M H') (some ⟨b,0,none⟩) ⟨b1,0,none⟩ (some ⟨b2,0,none⟩) d.size d.size H:=by
 unfold ZF.j9;obtain⟨s1,s2,_⟩:=hg;have hsz:=hok.size
 try simp only[HS]
 refine hs.ld 1 rfl rfl ?_;simp only[HV];refine hs.ld 2 rfl rfl ?_;simp only[HV];refine ZM.use (pZC hs 1 rfl (by omega) hn (by omega) r.s s1 (by omega)) ?_;simp only[HV];have hl:=jZj r hsz.1;refine(dZ2 (p:=p) (d:=d) hok (by omega) (aZN f n r.s:Int) (some ⟨b2,0,none⟩) d.size d.size (r.form d.size) hl.symm (pts b2 (.row (Zm (r.form d.size)) 5 mm)) (fun H h=>?_)).use hs [0,3] rfl rfl ?_
 ·have:=Cells.row h 0 d.size;rw[List.drop_zero,List.take_of_length_le (by rw[ZJ];omega)]at this;exact this
 rintro _ _ H1 ⟨rfl,rfl⟩ hs;have hs:Hw.Sep [Dk p (d.writeD (aZN f n r.s) (r.form d.size)),pts b2 (.row (Zm (r.form d.size)) 5 mm),pts b (ZZ p f n w),pts b1 (bZu r)] H1:=hs;unfold iZm lZ1;by_cases he:d.writeE (aZN f n r.s) d.size≠0
 ·rw[if_pos he];simp only[HV];refine ZB he ?_;exact⟨_,⟨by first|trivial|rfl,rfl⟩,hs.re [0,2] rfl⟩
 ·rw[if_neg he];simp only[HV];refine Zq (by omega) ?_
  try simp only[HS]
  refine hs.ld 2 rfl rfl ?_;simp only[HV];have hsy:(d.writeD (aZN f n r.s) (r.form d.size)).sy=d.sy:=by
   have hbr:=bZW d;unfold D.writeD;split
   ·rfl
   ·split
    ·rfl
    ·split
     ·exact hbr.2.2.1
     ·exact hbr.2.2.1
  refine(hZf (p:=p) (d:=d.writeD (aZN f n r.s) (r.form d.size)) (Ok.writeD hok _ _) (by rw[hsy];omega)).use hs [0] rfl rfl ?_;rintro _ _ H2 ⟨rfl,rfl⟩ hs;simp only[HV];exact⟨_,⟨by first|trivial|rfl,rfl⟩,hs.re [0,2] rfl⟩
end Go.Proofs.YtgfildcgihbdaaaGreatDoor.Rng
namespace Go.Proofs.YtgfildcgihbdaaaGreatDoor.Rng
open Go Go.Hw W Rec Srt Dsk
theorem wZr {K:VK}{p4:OA}{a4:Addr}{A:OA}{n m:Nat}{x:Int}{H:Hp}(hx:x≠0)(k:K (.int .i64 10) H):ZF.j2 K p4 a4 A n m x H:=by
 unfold ZF.j2;exact ZB hx k
theorem wZs {b p f n:Nat}{w:Int}(hn:1≤n)(hfn:f+n≤1048576){d:D}(hok:Ok d)(hw:d.wr≤1000000∧d.sy≤1000000)(hrd:d.rd+n≤1000000)(h12:(aZO f n d).1=0→(aZO f n d).2.2.length≤12)(r:R)(hg:r.good)(b1 b2 mm:Nat)(H:Hp)
  (hs:Hw.Sep [Dk p d,pts b (ZZ p f n w),pts b1 (bZu r),pts b2 (.row (Zm (r.form d.size)) 5 mm)] H):
  ZF.j2 (fun v H'=>∃ M,iZm b p f n w (eZU f n d r) v M∧Hw.Sep M H') (some ⟨b,0,none⟩) ⟨b1,0,none⟩ (some ⟨b2,0,none⟩) d.size d.size 0 H:=by
 unfold ZF.j2;refine Zq rfl ?_;refine(oZ3 (b:=b) (p:=p) (w:=w) hn hfn hok hrd h12).use hs [0,1] rfl rfl ?_;rintro _ _ H1 ⟨rfl,rfl⟩ hs;obtain⟨hok',hwr',hsy',hsz',_⟩:=oZq f n n 0 d [] hok;have hok':Ok (aZO f n d).2.1:=hok';have hwr':(aZO f n d).2.1.wr=d.wr:=hwr';have hsy':(aZO f n d).2.1.sy=d.sy:=hsy';have hsz':(aZO f n d).2.1.size=d.size:=hsz';have hj9:=fun(b1 b2 mm:Nat) (H:Hp) hs=>wZt (b:=b) (p:=p) (w:=w) hn hfn hok' (by rw[hwr',hsy'];exact hw) r hg b1 b2 mm H hs
 have hap:eZU f n d r=if(aZO f n d).1≠0 then((aZO f n d).1,(aZO f n d).2.1)else if cZy (dZ7 (aZO f n d)) r=false then(5,(aZO f n d).2.1)else lZ1 f n (aZO f n d).2.1 r:=by
  unfold eZU;rw[if_neg (fun h=>h hg)]
 rw[hap];rw[hsz']at hj9;generalize dZ7 (aZO f n d)=lq at*;generalize aZO f n d=sc at*;obtain⟨e,d',l⟩:=sc;simp only at hj9 hs hok' hwr' hsy' hsz' h12⊢;simp only[HV];refine hs.nw fun b3 H hs=>?_
 refine hs.stw 4 (y:=(lq.getD aZ9).c) rfl rfl rfl (eZP _) fun H hs=>?_;have hs:Hw.Sep [Dk p d',pts b (ZZ p f n w),pts b1 (bZu r),pts b2 (.row (Zm (r.form d.size)) 5 mm),pts b3 (.obj (.cells (lq.getD aZ9).c 102))] H:=hs;by_cases he:e≠0
 ·refine ZB he ?_;rw[if_pos he];exact⟨_,⟨rfl,rfl⟩,hs.re [0,1] rfl⟩
 refine Zq (by omega) ?_;rw[if_neg he];cases lq with
 |some q=>
  refine aZt rfl ?_;refine hs.ldw 4 rfl rfl ?_;refine hs.ldw 2 rfl rfl ?_;rw[Array.toArray_toList,Array.toArray_toList];refine Za.use (sZr q r H) ?_;simp only[HV];by_cases ha:after q r
  ·rw[decide_eq_true ha];refine aZb rfl (aZb rfl ?_);rw[if_neg (show ¬cZy (some q) r=false by show ¬(decide (after q r)=false);rw[decide_eq_true ha];decide)];exact hj9 b1 b2 mm H (hs.re [0,1,2,3] rfl)
  ·rw[decide_eq_false ha];refine aZt rfl ?_;rw[if_pos (show cZy (some q) r=false from decide_eq_false ha)];exact⟨_,⟨rfl,rfl⟩,hs.re [0,1] rfl⟩
 |none=>
  refine aZb rfl (aZt rfl ?_);refine hs.ldf 2 rfl rfl ?_;simp only[HV];by_cases h1:r.s=1
  ·refine Zq (by omega) ?_;refine hs.ldf 2 rfl rfl ?_;simp only[HV];by_cases h2:r.kd=1
   ·refine Zq h2 ?_;rw[if_neg (show ¬cZy none r=false by show ¬(decide (r.s=1∧r.kd=1)=false);rw[decide_eq_true ⟨h1,h2⟩];decide)];exact hj9 b1 b2 mm H (hs.re [0,1,2,3] rfl)
   ·refine ZB h2 ?_;rw[if_pos (show cZy none r=false from decide_eq_false fun h=>h2 h.2)];exact⟨_,⟨rfl,rfl⟩,hs.re [0,1] rfl⟩
  ·refine ZB (by omega) ?_;rw[if_pos (show cZy none r=false from decide_eq_false fun h=>h1 h.1)];exact⟨_,⟨rfl,rfl⟩,hs.re [0,1] rfl⟩
theorem qZE {b p f n:Nat}{w:Int}(hn:1≤n)(hfn:f+n≤1048576){d:D}(hok:Ok d)(hw:d.wr≤1000000∧d.sy≤1000000)(hrd:d.rd+n≤1000000)(h12:(aZO f n d).1=0→(aZO f n d).2.2.length≤12)(hsec:secB (d.size:Int)=true)(r:R)(hu:r.u32):
  Tr Tryz.prog 81 #[.pointer (some ⟨b,0,none⟩),.agg r.c] [Dk p d,pts b (ZZ p f n w)] (iZm b p f n w (eZU f n d r)):=fun H hs=>by
 apply ZF.ok;unfold ZF ZF.q1;have hsz:=hok.size;refine hs.nw fun b1 H hs=>?_
 have hs:Hw.Sep [Dk p d,pts b (ZZ p f n w),pts b1 (bZu r)] H:=hs;have put:Za Tryz.prog 109 #[.agg r.c,.int .i64 (d.size:Int)] H fun v3 H3=>bZq v3 fun l2=>Zl l2 fun v4 l3=>DSl v4 fun A1 n1 m1=>Zl l3 fun v5 l4=>DI .i64 v5 fun x2=>ZR l4 (ZF.j2 (fun v H'=>∃ M,iZm b p f n w (eZU f n d r) v M∧Hw.Sep M H') (some ⟨b,0,none⟩) ⟨b1,0,none⟩ A1 n1 m1 x2 H3):=by
  by_cases hg:r.good
  ·have hneed:(Lay.gZm 0 (d.size:Int)).2=0:=of_decide_eq_true hsec;refine(vZz r hg hu d.size hsz.1 hsz.2 hneed).use hs [] rfl rfl ?_;rintro _ _ H1 ⟨b2,rfl,rfl⟩ hs;rw[jZN r hsz.1]at hs;simp only[HV];have hs:Hw.Sep [pts b2 (.row (Zm (r.form d.size)) 5 (d.size*1)),Dk p d,pts b (ZZ p f n w),pts b1 (bZu r)] H1:=hs;exact wZs hn hfn hok hw hrd h12 r hg b1 b2 _ H1 (hs.re [1,2,3,0] rfl)
  ·refine Za.use (nZz r (d.size:Int) (fun h=>hg h.1) H) ?_;simp only[HV];refine wZr (by decide) ?_;have:eZU f n d r=(10,d):=by unfold eZU;rw[if_pos hg]
   rw[this];exact⟨_,⟨rfl,rfl⟩,hs.re [0,1] rfl⟩
 have lda:∀{K:List Value→Prop},K r.c.toList→LdA H (⟨b1,0,none⟩:Addr) 8 K:=fun k=>hs.ldw 2 rfl rfl k
 have ldd:∀{K:Value→Prop},K (.pointer (some ⟨p,0,none⟩))→Ld H ((⟨b,0,none⟩:Addr).add 3) K:=fun k=>hs.ldf 1 rfl rfl k
 have hS:=hZn hs 0 rfl;rw[aZT];refine⟨lda (ldd ?_),ldd ?_⟩
 ·simp only[HV];refine Za.use hS ?_;simp only[HV];exact put
 ·simp only[HV];refine⟨lda ?_,?_⟩
  ·refine Za.use hS ?_;simp only[HV];exact put
  ·refine Za.use hS ?_;simp only[HV];refine lda ?_;rw[Array.toArray_toList];exact put
end Go.Proofs.YtgfildcgihbdaaaGreatDoor.Rng
namespace Go.Proofs.YtgfildcgihbdaaaGreatDoor.Rng
open Go Go.Hw W Rec Srt Dsk
end Go.Proofs.YtgfildcgihbdaaaGreatDoor.Rng
namespace Go.Proofs.YtgfildcgihbdaaaGreatDoor.Rng
open Go Go.Hw W Rec Srt Dsk
def iZr (f:Nat):Nat→Nat→D→Int×D
 |0,_,d=>(d.syncE,d.syncD)
 |k+1,i,d=>if d.writeE ((f+i:Nat):Int) d.size≠0 then(d.writeE ((f+i:Nat):Int) d.size,d.writeD ((f+i:Nat):Int) (List.replicate d.size 0))else iZr f k (i+1) (d.writeD ((f+i:Nat):Int) (List.replicate d.size 0))
theorem mZX (d:D)(i:Int)(bs:List UInt8):(d.writeD i bs).sy=d.sy∧(d.writeD i bs).wr≤d.wr+1∧(d.writeD i bs).size=d.size:=by
 have hbr:=bZW d;unfold D.writeD;split
 ·exact⟨rfl,by omega,rfl⟩
 ·split
  ·exact⟨rfl,by omega,rfl⟩
  ·split
   ·exact⟨hbr.2.2.1,by omega,hbr.2.2.2.1⟩
   ·exact⟨hbr.2.2.1,Nat.le_refl _,hbr.2.2.2.1⟩
theorem eZT (n:Nat):aZq [Value.int .u8 0] n=Zm (List.replicate n 0):=by
 rw[bZA];simp[Zm]
theorem kZK {b p f n:Nat}{w:Int}(hfn:f+n≤1048576)(r:Int×D):∀(t i:Nat) (d:D) (H:Hp),i+t=n→Ok d→d.wr+t≤1000000→d.sy≤1000000→r=iZr f t i d→Hw.Sep [Dk p d,pts b (ZZ p f n w)] H→
  ZN.l2 (fun v H'=>∃ M,iZm b p f n w r v M∧Hw.Sep M H') (t+1) (some ⟨b,0,none⟩) (n:Int) (i:Int) H
 |0,i,d,H,hi,hok,hwr,hsy,hr,hs=>by
  unfold ZN.l2 ZN.l2.q1;refine Zh (by omega) ?_
  try simp only[HS]
  refine hs.ld 1 rfl rfl ?_;simp only[HV]
  try simp only[HS]
  refine(hZf (p:=p) (d:=d) hok (by omega)).use hs [0] rfl rfl ?_;rintro _ _ H1 ⟨rfl,rfl⟩ hs;have hr:r=(d.syncE,d.syncD):=hr;rw[hr];simp only[HV];exact⟨_,⟨rfl,rfl⟩,hs⟩
 |t+1,i,d,H,hi,hok,hwr,hsy,hr,hs=>by
  unfold ZN.l2 ZN.l2.q1;refine Zn (by omega) ?_;have hsz:=hok.size;have hw:=mZX d ((f+i:Nat):Int) (List.replicate d.size 0);have hadd:i64.wrap ((f:Int)+(i:Int))=((f+i:Nat):Int):=by rw[ZL (by omega) (by omega)];omega
  have rest:∀ H1,Hw.Sep [Dk p (d.writeD ((f+i:Nat):Int) (List.replicate d.size 0)),pts b (ZZ p f n w)] H1→
    BIf (d.writeE ((f+i:Nat):Int) d.size !=0) (∃ M,iZm b p f n w r (.int .i64 (d.writeE ((f+i:Nat):Int) d.size)) M∧Hw.Sep M H1) (ZN.l2 (fun v H'=>∃ M,iZm b p f n w r v M∧Hw.Sep M H') (t+1) (some ⟨b,0,none⟩) (n:Int) (i64.wrap ((i:Int)+1)) H1):=fun H1 hs=>by
   unfold iZr at hr;by_cases he:d.writeE ((f+i:Nat):Int) d.size≠0
   ·rw[if_pos he]at hr;refine ZB he ?_;rw[hr];exact⟨_,⟨rfl,rfl⟩,hs⟩
   ·rw[if_neg he]at hr;refine Zq (by omega) ?_;rw[ZL (x:=(i:Int)+1) (by omega) (by omega)];exact kZK hfn r t (i+1) _ H1 (by omega) (Ok.writeD hok _ _) (by omega) (by omega) hr hs
  try simp only[HS]
  refine hs.ld 1 rfl rfl ?_;simp only[HV]
  try simp only[HS]
  refine ZM.use (hZn hs 0 rfl) ?_;simp only[HV]
  try simp only[HS]
  refine⟨?_,?_,?_⟩
  ·refine hs.ld 1 rfl rfl ?_;simp only[HV]
   try simp only[HS]
   refine⟨?_,?_⟩
   ·refine hs.ld 1 rfl rfl ?_;simp only[HV]
    try simp only[HS]
    rw[hadd];refine hs.mks eZi rfl (n:=d.size) (m:=d.size) rfl rfl (Nat.le_refl _) (by omega) (by omega) fun b2 H hs=>?_
    simp only[HV];rw[eZT]at hs;have hs:Hw.Sep [Dk p d,pts b (ZZ p f n w),pts b2 (.row (Zm (List.replicate d.size 0)) 5 (d.size*1))] H:=hs;refine(dZ2 (p:=p) (d:=d) hok (by omega) ((f+i:Nat):Int) (some ⟨b2,0,none⟩) d.size d.size (List.replicate d.size 0) (by rw[List.length_replicate]) (pts b2 (.row (Zm (List.replicate d.size 0)) 5 (d.size*1))) (fun H h=>?_)).use hs [0,2] rfl rfl ?_
    ·have:=Cells.row h 0 d.size;rw[List.drop_zero,List.take_of_length_le (by rw[ZJ,List.length_replicate];omega)]at this;exact this
    rintro _ _ H1 ⟨rfl,rfl⟩ hs;simp only[HV];exact rest _ (hs.re [0,2] rfl)
   ·refine hs.mks eZi rfl (n:=d.size) (m:=d.size) rfl rfl (Nat.le_refl _) (by omega) (by omega) fun b2 H hs=>?_
    simp only[HV];rw[eZT]at hs;have hs:Hw.Sep [Dk p d,pts b (ZZ p f n w),pts b2 (.row (Zm (List.replicate d.size 0)) 5 (d.size*1))] H:=hs;refine hs.ld 1 rfl rfl ?_;simp only[HV]
    try simp only[HS]
    rw[hadd];refine(dZ2 (p:=p) (d:=d) hok (by omega) ((f+i:Nat):Int) (some ⟨b2,0,none⟩) d.size d.size (List.replicate d.size 0) (by rw[List.length_replicate]) (pts b2 (.row (Zm (List.replicate d.size 0)) 5 (d.size*1))) (fun H h=>?_)).use hs [0,2] rfl rfl ?_
    ·have:=Cells.row h 0 d.size;rw[List.drop_zero,List.take_of_length_le (by rw[ZJ,List.length_replicate];omega)]at this;exact this
    rintro _ _ H1 ⟨rfl,rfl⟩ hs;simp only[HV];exact rest _ (hs.re [0,2] rfl)
  ·refine hs.ld 1 rfl rfl ?_;simp only[HV]
   try simp only[HS]
   rw[hadd];refine⟨?_,?_⟩
   ·refine hs.ld 1 rfl rfl ?_;simp only[HV]
    try simp only[HS]
    refine hs.mks eZi rfl (n:=d.size) (m:=d.size) rfl rfl (Nat.le_refl _) (by omega) (by omega) fun b2 H hs=>?_
    simp only[HV];rw[eZT]at hs;have hs:Hw.Sep [Dk p d,pts b (ZZ p f n w),pts b2 (.row (Zm (List.replicate d.size 0)) 5 (d.size*1))] H:=hs;refine(dZ2 (p:=p) (d:=d) hok (by omega) ((f+i:Nat):Int) (some ⟨b2,0,none⟩) d.size d.size (List.replicate d.size 0) (by rw[List.length_replicate]) (pts b2 (.row (Zm (List.replicate d.size 0)) 5 (d.size*1))) (fun H h=>?_)).use hs [0,2] rfl rfl ?_
    ·have:=Cells.row h 0 d.size;rw[List.drop_zero,List.take_of_length_le (by rw[ZJ,List.length_replicate];omega)]at this;exact this
    rintro _ _ H1 ⟨rfl,rfl⟩ hs;simp only[HV];exact rest _ (hs.re [0,2] rfl)
   ·refine hs.mks eZi rfl (n:=d.size) (m:=d.size) rfl rfl (Nat.le_refl _) (by omega) (by omega) fun b2 H hs=>?_
    simp only[HV];rw[eZT]at hs;have hs:Hw.Sep [Dk p d,pts b (ZZ p f n w),pts b2 (.row (Zm (List.replicate d.size 0)) 5 (d.size*1))] H:=hs;refine hs.ld 1 rfl rfl ?_;simp only[HV]
    try simp only[HS]
    refine(dZ2 (p:=p) (d:=d) hok (by omega) ((f+i:Nat):Int) (some ⟨b2,0,none⟩) d.size d.size (List.replicate d.size 0) (by rw[List.length_replicate]) (pts b2 (.row (Zm (List.replicate d.size 0)) 5 (d.size*1))) (fun H h=>?_)).use hs [0,2] rfl rfl ?_
    ·have:=Cells.row h 0 d.size;rw[List.drop_zero,List.take_of_length_le (by rw[ZJ,List.length_replicate];omega)]at this;exact this
    rintro _ _ H1 ⟨rfl,rfl⟩ hs;simp only[HV];exact rest _ (hs.re [0,2] rfl)
  ·refine hs.mks eZi rfl (n:=d.size) (m:=d.size) rfl rfl (Nat.le_refl _) (by omega) (by omega) fun b2 H hs=>?_
   simp only[HV];rw[eZT]at hs;have hs:Hw.Sep [Dk p d,pts b (ZZ p f n w),pts b2 (.row (Zm (List.replicate d.size 0)) 5 (d.size*1))] H:=hs;refine hs.ld 1 rfl rfl ?_;simp only[HV]
   try simp only[HS]
   refine hs.ld 1 rfl rfl ?_;simp only[HV]
   try simp only[HS]
   rw[hadd];refine(dZ2 (p:=p) (d:=d) hok (by omega) ((f+i:Nat):Int) (some ⟨b2,0,none⟩) d.size d.size (List.replicate d.size 0) (by rw[List.length_replicate]) (pts b2 (.row (Zm (List.replicate d.size 0)) 5 (d.size*1))) (fun H h=>?_)).use hs [0,2] rfl rfl ?_
   ·have:=Cells.row h 0 d.size;rw[List.drop_zero,List.take_of_length_le (by rw[ZJ,List.length_replicate];omega)]at this;exact this
   rintro _ _ H1 ⟨rfl,rfl⟩ hs;simp only[HV];exact rest _ (hs.re [0,2] rfl)
theorem sZx {b p f n:Nat}{w:Int}(hfn:f+n≤1048576){d:D}(hok:Ok d)(hwr:d.wr+n≤1000000)(hsy:d.sy≤1000000):
  Tr Tryz.prog 48 #[.pointer (some ⟨b,0,none⟩)] [Dk p d,pts b (ZZ p f n w)] (iZm b p f n w (iZr f n 0 d)):=fun H hs=>by
 apply ZN.ok;unfold ZN
 try simp only[HS]
 refine hs.ld 1 rfl rfl ?_;simp only[HV];exact⟨n+1,kZK hfn _ n 0 d H (by omega) hok hwr hsy rfl hs⟩
end Go.Proofs.YtgfildcgihbdaaaGreatDoor.Rng
namespace Go.Proofs.YtgfildcgihbdaaaGreatDoor.Rng
open Go Go.Hw W Rec Srt Dsk
structure Act where
 k:Int
 i:Int
 r:R
 A:OA
 n:Nat
 m:Nat
 ks:List Bool
 A':OA
 n':Nat
 m':Nat
 b:List UInt8
structure OkA (H:Hp)(a:Act):Prop where
 n:a.n=a.ks.length
 ks:Cells H a.A (cZJ a.ks)
 n':a.n'=a.b.length
 b:Cells H a.A' (Zm a.b)
 i: -9223372036854775808≤a.i∧a.i≤9223372036854775807
 wf:a.r.wf
theorem OkA.le {H H':Hp}{a:Act}(h:OkA H a)(k:H.le H'):OkA H' a:=⟨h.n,h.ks.le k,h.n',h.b.le k,h.i,h.wf⟩
def short (a:Act):Prop:=a.n≤20∧a.n'≤100
end Go.Proofs.YtgfildcgihbdaaaGreatDoor.Rng
namespace Go.Proofs.YtgfildcgihbdaaaGreatDoor.Rng
open Go Go.Hw Rec Srt Dsk
theorem iZ6 (r:Int×D×List R):dZ7 r=none↔r.2.2=[]:=by
 unfold dZ7;rw[List.getLast?_eq_none_iff];constructor
 ·intro h;have:=eZw (r.2.2.length-1) r.2.2;rw[h]at this;exact List.length_eq_zero_iff.1 this.symm
 ·intro h;rw[h];rfl
theorem mZA {r:Int×D×List R}{q:R}(h:dZ7 r=some q):q∈r.2.2∧∀ x∈r.2.2,x.s≤q.s:=by
 unfold dZ7 at h;have hp:=rZt r.2.2;have hs:=nZW r.2.2;generalize bZT r.2.2 (r.2.2.length-1)=l at*;obtain⟨p,rfl⟩:=List.getLast?_eq_some_iff.1 h;refine⟨hp.mem_iff.1 (by simp),fun x hx=>?_⟩;have hx2:=hp.mem_iff.2 hx;rw[List.pairwise_append]at hs;rcases List.mem_append.1 hx2 with h1|h1
 ·exact hs.2.2 x h1 q (by simp)
 ·have:x=q:=by simpa using h1
  rw[this];exact Nat.le_refl _
theorem sZ0 {r:Int×D×List R}{q:R}(hq:q∈r.2.2)(hm:∀ x∈r.2.2,x.s≤q.s)(hd:∀ x∈r.2.2,x.s=q.s→x=q):dZ7 r=some q:=by
 cases h:dZ7 r with
 |none=>rw[(iZ6 r).1 h]at hq;simp at hq
 |some y=>
  obtain⟨h1,h2⟩:=mZA h;have:=h2 q hq;have:=hm y h1;rw[hd y h1 (by omega)]
end Go.Proofs.YtgfildcgihbdaaaGreatDoor.Rng
namespace Go.Proofs.YtgfildcgihbdaaaGreatDoor.Eng
open Go Go.Hw Go.Form Dsk Str Rec Srt Rng
def stC (c:Cn)(f n:Nat):Nat→Nat→List R
 |0,_=>[]
 |k+1,i=>eZR f n (c ((f+i:Nat):Int)) i++stC c f n k (i+1)
def bZn (c:Cn)(k:Nat)(b:List UInt8):Cn:=fun i=>if i=(k:Int)then b else c i
def lastC (c:Cn)(f n:Nat):Option R:=dZ7 (0,(D.fresh 1 32),stC c f n n 0)
theorem nZZ {d:D}{e:Int}{c:Cn}{f n:Nat}:dZ7 (e,d,stC c f n n 0)=lastC c f n:=rfl
theorem hZi (c:Cn)(f n:Nat)(x:R):∀ k i,x∈stC c f n k i↔∃ j,i≤j∧j<i+k∧x∈eZR f n (c ((f+j:Nat):Int)) j
 |0,i=>by
  constructor
  ·intro h;cases h
  ·rintro⟨j,h1,h2,_⟩;omega
 |k+1,i=>by
  show x∈_++_↔_
  rw[List.mem_append,hZi c f n x k (i+1)];constructor
  ·rintro(h|⟨j,h1,h2,h3⟩)
   ·exact⟨i,Nat.le_refl _,by omega,h⟩
   ·exact⟨j,by omega,by omega,h3⟩
  ·rintro⟨j,h1,h2,h3⟩;by_cases e:j=i
   ·subst e;exact .inl h3
   ·exact .inr ⟨j,by omega,by omega,h3⟩
theorem jZq {f n:Nat}{bs:List UInt8}{i:Nat}{x:R}:x∈eZR f n bs i↔(aZW bs).2=0∧aZN f n x.s=f+i∧x=(aZW bs).1:=by
 unfold eZR;split
 ·rename_i h
  rw[List.mem_singleton];constructor
  ·rintro rfl;exact⟨h.1,h.2,rfl⟩
  ·rintro⟨_,_,h3⟩;exact h3
 ·rename_i h
  constructor
  ·intro h';cases h'
  ·rintro⟨h1,h2,rfl⟩;exact absurd ⟨h1,h2⟩ h
theorem lZy {d:D}{c:Cn}(h:Clean d c)(f n:Nat):∀(k i t:Nat) (acc:List R),f+i+k≤d.sec→d.fuse=0∨t<d.fuse→
  ((d.fuse=0∨t+k<d.fuse)∧cZI f n k i (D.rdG d t) acc=(0,D.rdG d (t+k),acc++stC c f n k i))∨(∃ j,j<t+k∧d.fuse=j+1∧cZI f n k i (D.rdG d t) acc=(8,D.dead (D.rdG d j),[]))
 |0,i,t,acc,hf,hl=>.inl ⟨hl,by show(0,D.rdG d t,acc)=_;rw[Nat.add_zero];show _=(0,D.rdG d t,acc++[]);rw[List.append_nil]⟩
 |k+1,i,t,acc,hf,hl=>by
  have hc:=h.rdG t;have hchk:(D.rdG d t).chk ((f+i:Nat):Int)=0:=gZe hc.down (Int.natCast_nonneg _) (by show _<(d.sec:Int);omega);unfold cZI;rw[if_neg (by rw[hchk];simp)];have hfu:(D.rdG d t).fuse=d.fuse-t:=rfl;by_cases hb:d.fuse-t=1
  ·rw[if_pos (by unfold D.burns;simp[hfu,hb]),eZv (by rw[hfu];exact hb)];exact .inr ⟨t,by omega,by omega,rfl⟩
  ·rw[if_neg (by unfold D.burns;simp[hfu,hb])];have e:D.red (D.rdG d t)=D.rdG d (t+1):=by
    unfold D.red;rw[dZ4 hc.down (by rw[hfu];exact hb)];exact oZm d t
   rw[e,hc.now];rcases lZy h f n k (i+1) (t+1) (acc++eZR f n (c ((f+i:Nat):Int)) i) (by omega) (by omega)with⟨h1,h2⟩|⟨j,h1,h2,h3⟩
   ·refine .inl ⟨by omega,?_⟩;rw[h2,List.append_assoc,show t+1+k=t+(k+1) by omega];rfl
   ·exact .inr ⟨j,by omega,h2,h3⟩
theorem kZc {d:D}{c:Cn}(h:Clean d c)(f n:Nat)(hf:f+n≤d.sec):
  ((d.fuse=0∨n<d.fuse)∧aZO f n d=(0,D.rdG d n,stC c f n n 0))∨(∃ j,j<n∧d.fuse=j+1∧aZO f n d=(8,D.dead (D.rdG d j),[])):=by
 rcases lZy h f n n 0 0 [] (by omega) (by omega)with⟨h1,h2⟩|⟨j,h1,h2,h3⟩
 ·rw[Nat.zero_add]at h1 h2;exact .inl ⟨h1,h2⟩
 ·rw[Nat.zero_add]at h1;exact .inr ⟨j,h1,h2,h3⟩
theorem Prog.wrote {S:Int→Prop}{d:D}(h:Ok d)(hl:d.down=false)(hf:d.fuse≠1){i:Int}(hi:S i){bs:List UInt8}(hb:bs.length=d.size):Prog S d (d.wrote i bs) 0 1:=by
 have hbt:=dZ4 hl hf;have hbr:=bZW d;unfold D.wrote;refine⟨⟨h.burnt.sec,h.burnt.size,h.burnt.big,h.burnt.per,h.burnt.safe,fun k b hk=>?_,h.burnt.fz⟩,?_,?_,by omega,hbr.2.2.2.2.1,hbr.2.2.2.1,hbr.2.2.2.2.2.1,hbr.2.2.1,fun k hk=>?_,fun k hk=>?_,hbr.1,rfl⟩
 ·have hk':cZr d.cache i bs k=some b:=hk;show b.length=d.burnt.size
  rw[hbr.2.2.2.1];unfold cZr at hk';split at hk'
  ·cases hk';exact hb
  ·exact h.cache k b hk'
 ·show d.burnt.down=false;rw[hbt];exact hl
 ·show d.burnt.fuse=_;rw[hbt]
 ·have hne:k≠i:=fun e=>hk (e▸hi)
  show cZr d.cache i bs k=_
  unfold cZr;rw[if_neg hne]
 ·have hne:k≠i:=fun e=>hk (e▸hi)
  show hZF d.tch i k=_
  unfold hZF;rw[if_neg hne]
def gZR (d:D)(k:Nat)(b:List UInt8):Int×D:=
 if d.writeE k d.size≠0 then(d.writeE k d.size,d.writeD k b)else((d.writeD k b).syncE,(d.writeD k b).syncD)
theorem jZh {d:D}{c:Cn}(h:Clean d c)(k:Nat)(hk:k<d.sec)(b:List UInt8)(hb:b.length=d.size):
  ∃ d',(gZR d k b=(0,d')∧bZE d d' 0 1 1∧Clean d' (bZn c k b))∨(gZR d k b=(8,d')∧Cut d d' 2∧Left d' fun c'=>c'=c∨c'=bZn c k b):=by
 have hchk:d.chk (k:Int)=0:=gZe h.down (Int.natCast_nonneg _) (by omega);unfold gZR;by_cases hf:d.fuse=1
 ·have hbn:d.burns=true:=by unfold D.burns;simp[hf]
  have e1:d.writeE k d.size=8:=by unfold D.writeE;rw[if_neg (by rw[hchk];simp),if_neg (by simp),hbn];rfl
  have e2:d.writeD k b=D.dead d:=by unfold D.writeD;rw[if_neg (by rw[hchk];simp),if_neg (by simp[hb]),hbn,eZv hf];rfl
  rw[e1,e2,if_pos (by decide)];refine⟨_,.inr ⟨rfl,⟨Ok.dead h.ok,h.dom,rfl,rfl,rfl,rfl,?_,Nat.le_refl _,Nat.le_refl _,Nat.le_refl _,by omega,by omega⟩,fun c' hc=>.inl (funext fun i=>?_)⟩⟩
  ·show d.rd+d.wr+d.sy+1=_;omega
  ·rcases hc i with e|e
   ·exact e.trans (h.sat i)
   ·exact e.trans (h.now i)
 ·have hbn:d.burns=false:=by unfold D.burns;exact decide_eq_false hf
  have e1:d.writeE k d.size=0:=by unfold D.writeE;rw[if_neg (by rw[hchk];simp),if_neg (by simp),hbn];rfl
  have e2:d.writeD k b=d.wrote k b:=by unfold D.writeD;rw[if_neg (by rw[hchk];simp),if_neg (by simp[hb]),hbn];rfl
  rw[e1,e2,if_neg (by simp)];have p:=Prog.wrote (S:=fun i=>i=(k:Int)) h.ok h.down hf rfl hb;have hnow:(d.wrote k b).now=bZn c k b:=funext fun i=>by
   unfold bZn;by_cases hi:i=(k:Int)
   ·rw[if_pos hi];show((cZr d.cache k b i)).getD _=b
    unfold cZr;rw[if_pos hi];rfl
   ·rw[if_neg hi];exact(h.prog p i).2 hi
  rcases h.sync p (fun i hi=>⟨by omega,by omega⟩)with⟨s1,s2,s3⟩|⟨s1,s2,s3⟩
  ·rw[hnow]at s3;exact⟨_,.inl ⟨by rw[s1],s2,s3⟩⟩
  ·refine⟨_,.inr ⟨by rw[s1],s2,s3.mono fun c' hc=>?_⟩⟩;rw[hnow]at hc;by_cases hk':c' (k:Int)=c k
   ·left
    funext i
    by_cases hi:i=(k:Int)
    ·rw[hi];exact hk'
    ·exact hc.2 i hi
   ·right
    funext i
    by_cases hi:i=(k:Int)
    ·rw[hi];exact(hc.1 _).resolve_left hk'
    ·rw[hc.2 i hi];unfold bZn;rw[if_neg hi]
theorem hZB {f n s:Nat}(hn:1≤n):f≤aZN f n s∧aZN f n s<f+n:=by
 have:=Nat.mod_lt (s-1) (show n>0 by omega);unfold aZN;omega
theorem qZ0 {d:D}{c:Cn}(h:Clean d c){f n:Nat}(hn:1≤n)(hf:f+n≤d.sec)(r:R):
  (¬r.good∧eZU f n d r=(10,d))∨
  (r.good∧∃ d',eZU f n d r=(8,d')∧Cut d d' n∧Left d' fun c'=>c'=c)∨
  (r.good∧cZy (lastC c f n) r=false∧∃ d',eZU f n d r=(5,d')∧bZE d d' n 0 0∧Clean d' c)∨
  (r.good∧cZy (lastC c f n) r=true∧∃ d',eZU f n d r=(8,d')∧Cut d d' (n+2)∧Left d' fun c'=>c'=c∨c'=bZn c (aZN f n r.s) (r.form d.size))∨
  (r.good∧cZy (lastC c f n) r=true∧∃ d',eZU f n d r=(0,d')∧bZE d d' n 1 1∧Clean d' (bZn c (aZN f n r.s) (r.form d.size))):=by
 by_cases hg:r.good
 ·right;have e0:eZU f n d r=if(aZO f n d).1≠0 then((aZO f n d).1,(aZO f n d).2.1)else if cZy (dZ7 (aZO f n d)) r=false then(5,(aZO f n d).2.1)else lZ1 f n (aZO f n d).2.1 r:=by
   unfold eZU;rw[if_neg (fun h=>h hg)]
  rcases kZc h f n hf with⟨h1,h2⟩|⟨j,h1,h2,h3⟩
  ·right;rw[h2,nZZ,if_neg (by simp)]at e0;have hw:=bZE.rdG h1;have hc:=h.rdG n;cases hm:cZy (lastC c f n) r with
   |false=>
    left;rw[if_pos hm]at e0;exact⟨hg,rfl,_,e0,hw,hc⟩
   |true=>
    right;rw[if_neg (by rw[hm];simp)]at e0;have hsl:=hZB (f:=f) (s:=r.s) hn;have hp:=jZh hc (aZN f n r.s) (by show _<d.sec;omega) (r.form d.size) (jZj r h.ok.size.1);have e1:lZ1 f n (D.rdG d n) r=gZR (D.rdG d n) (aZN f n r.s) (r.form d.size):=rfl;rw[e1]at e0;obtain⟨d',⟨e2,h4,h5⟩|⟨e2,h4,h5⟩⟩:=hp
    ·exact .inr ⟨hg,rfl,d',e0.trans e2,by have:=hw.trans h4;simpa using this,h5⟩
    ·exact .inl ⟨hg,rfl,d',e0.trans e2,by have:=hw.cut h4;simpa using this,h5⟩
  ·left;rw[h3,if_pos (by show(8:Int)≠0;decide)]at e0;exact⟨hg,_,e0,Cut.rdG h h2 h1,Left.rdG h j⟩
 ·left;exact⟨hg,by unfold eZU;rw[if_pos hg]⟩
theorem sZ2 {c:Cn}{f n size:Nat}(hn:1≤n)(hsz:32≤size)(hsec:secB (size:Int)=true){r:R}(hg:r.good)(hu:r.u32)(hm:cZy (lastC c f n) r=true):
  lastC (bZn c (aZN f n r.s) (r.form size)) f n=some r:=by
 have hsl:=hZB (f:=f) (s:=r.s) hn;have ht:=qZs r hg hu hsz hsec;have hstand:∀ j,j<n→∀ x,x∈eZR f n (bZn c (aZN f n r.s) (r.form size) ((f+j:Nat):Int)) j→x=r∨x∈stC c f n n 0:=fun j hj x hx=>by
  unfold bZn at hx;by_cases e:((f+j:Nat):Int)=(aZN f n r.s:Nat)
  ·rw[if_pos e,jZq,ht]at hx;exact .inl hx.2.2
  ·rw[if_neg e]at hx;exact .inr ((hZi c f n x n 0).2 ⟨j,Nat.zero_le _,by omega,hx⟩)
 have hless:∀ x∈stC c f n n 0,x.s<r.s:=fun x hx=>by
  unfold cZy at hm;cases hq:lastC c f n with
  |none=>
   have e:stC c f n n 0=[]:=(iZ6 _).1 hq;rw[e]at hx;cases hx
  |some q=>
   rw[hq]at hm;have ha:after q r:=of_decide_eq_true hm;have:=(mZA hq).2 x hx;have:=ha.2.2.1;omega
 refine sZ0 (q:=r) ?_ (fun x hx=>?_) fun x hx e=>?_
 ·refine(hZi _ f n r n 0).2 ⟨aZN f n r.s-f,Nat.zero_le _,by omega,?_⟩;rw[show f+(aZN f n r.s-f)=aZN f n r.s by omega,jZq];unfold bZn;rw[if_pos rfl,ht];exact⟨rfl,by omega,rfl⟩
 ·obtain⟨j,_,h2,h3⟩:=(hZi _ f n x n 0).1 hx;rcases hstand j (by omega) x h3 with e|e
  ·rw[e];exact Nat.le_refl _
  ·exact Nat.le_of_lt (hless x e)
 ·obtain⟨j,_,h2,h3⟩:=(hZi _ f n x n 0).1 hx;rcases hstand j (by omega) x h3 with e'|e'
  ·exact e'
  ·have:=hless x e';omega
end Go.Proofs.YtgfildcgihbdaaaGreatDoor.Eng
namespace Go.Proofs.YtgfildcgihbdaaaGreatDoor.Sup
open Go Go.Hw Go.Form W Lay
theorem nZw (s:Int)(hs:0<ZP s)(H:Hp):Za Tryz.prog 148 #[.int .u64 s] H (RetE (.int .i64 (cZq s+1)) H):=by
 apply cZF.ok;unfold cZF;refine Za.use (v:=.int .i64 (cZq s+1)) ?_ (RetE.mk _ _);apply aZj.ok;have:s=32∨s=64∨s=128∨s=256∨s=512∨s=1024∨s=2048∨s=4096:=by
  unfold ZP at hs
  repeat' split at hs
  all_goals omega
 unfold aZj;rcases this with rfl|rfl|rfl|rfl|rfl|rfl|rfl|rfl
 all_goals
  refine aZb rfl ?_;unfold aZj.j4;refine aZb rfl ?_;unfold aZj.j7
  first
   |(refine aZt rfl ⟨by decide,by decide,?_⟩;refine rZu (by decide) ?_;exact RetE.of rfl)
   |(refine aZb rfl ⟨by decide,?_⟩;refine rZu (by decide) ?_;exact RetE.of rfl)
def bZo (k:Nat)(s:Int):Nat:=4702392716946833408+k*65536+(cZq s).toNat
def fZ4 (k sec s ar:Int):List UInt64:=[UInt64.ofNat (bZo k.toNat s),UInt64.ofNat sec.toNat,UInt64.ofNat ar.toNat]
def gZT (k sec s ar:Int):List UInt64:=fZ4 k sec s ar++[UInt64.ofNat (Go.Crc.sum (form (fZ4 k sec s ar))).toNat]
def bZQ (k sec s ar:Int):List UInt8:=form (gZT k sec s ar)++List.replicate (s.toNat-32) 0
theorem rZD (s:Int):cZq s≤12:=by
 rcases hZ8 s with h|h<;>omega
theorem nZQ (k:Nat)(sec s ar:Int)(hk:k≤65535)(hs:0<ZP s)(H:Hp):Za Tryz.prog 102 #[.agg (bZi k sec s ar)] H (RetE (.int .u64 ((UInt64.ofNat (bZo k s)).toNat:Int)) H):=by
 apply Za.ret;apply fZj.ok;unfold fZj;simp only[HS];refine(Sep.start H).nw fun b1 H hs'=>?_
 have hs0:=hs;have hs:=hs';have h1:=hZ8 s;have h2:=jZM s
 first|refine hs.ld 1 rfl rfl ?_|refine hs.ld 2 rfl rfl ?_|refine hs.ld 3 rfl rfl ?_|refine hs.ld 4 rfl rfl ?_|refine hs.ld 5 rfl rfl ?_|refine hs.ld 6 rfl rfl ?_|refine hs.ld 7 rfl rfl ?_|refine hs.ld 8 rfl rfl ?_
 try simp only[HV]
 refine⟨by omega,?_⟩
 first|refine hs.ld 1 rfl rfl ?_|refine hs.ld 2 rfl rfl ?_|refine hs.ld 3 rfl rfl ?_|refine hs.ld 4 rfl rfl ?_|refine hs.ld 5 rfl rfl ?_|refine hs.ld 6 rfl rfl ?_|refine hs.ld 7 rfl rfl ?_|refine hs.ld 8 rfl rfl ?_
 try simp only[HV]
 rw[eZc (x:=s) (by omega) (by omega)];refine ZM.use (nZw s hs0 H) ?_
 try simp only[HV]
 have h3:bZo k s<2^64:=by unfold bZo;omega
 rw[show cZq s+1-1=cZq s by omega,ZL (x:=cZq s) (by omega) (by omega),eZc (x:=cZq s) (by omega) (by omega),bZ6 (n:=k) (by omega)];rw[qZq (i:=(16:Int)) (n:=16) rfl (by omega),Nat.mod_eq_of_lt (by omega)];obtain⟨g,hg⟩:=Int.eq_ofNat_of_zero_le (show 0≤cZq s by omega);have h4:k*2^16<2^64:=by omega
 rw[show(4702392716946833408:Int)=((4702392716946833408:Nat):Int)from rfl,orN (by omega) h4,hg,orN (nZk (by omega) h4) (by omega)];have e1:∀ q,q=4702392716946833408→q|||k*2^16=q+k*2^16:=fun q hq=>by
  have h5:∀ p,p=1094861123→p*2^32=q:=fun p hp=>by omega
  have:=Nat.shiftLeft_add_eq_or_of_lt (show k*2^16<2^32 by omega) 1094861123;rw[Nat.shiftLeft_eq,h5 _ rfl]at this;exact this.symm
 have e2:∀ q,q=4702392716946833408+k*2^16→q|||g=q+g:=fun q hq=>by
  have h5:∀ p,p=1094861123*2^16+k→p*2^16=q:=fun p hp=>by omega
  have:=Nat.shiftLeft_add_eq_or_of_lt (show g<2^16 by omega) (1094861123*2^16+k);rw[Nat.shiftLeft_eq,h5 _ rfl]at this;exact this.symm
 have e3:4702392716946833408+k*2^16+g=bZo k s:=by unfold bZo;rw[hg];rfl
 rw[e1 _ rfl,e2 _ rfl,e3];rw[show(UInt64.ofNat (bZo k s)).toNat=bZo k s from UInt64.toNat_ofNat_of_lt' h3];exact hs.fin 0 rfl _
theorem iZH (k sec s ar:Int):(gZT k sec s ar).length=4:=rfl
theorem iZG (k sec s ar:Int)(hs:0<ZP s):((bZQ k sec s ar).length:Int)=s:=by
 have h1:=hZ8 s;unfold bZQ;rw[List.length_append,aZ0,iZH,List.length_replicate];have:4≤ZP s:=by
  rcases h1 with h|h
  ·rw[h.2.2.2.2];have:2^2≤2^(cZq s-3).toNat:=Nat.pow_le_pow_right (by omega) (by omega);omega
  ·omega
 omega
theorem bZO :bZe Tryz.prog 82=some (1,8,some #[.int .u64 0]):=by kernel_rfl
theorem nZL :bZe Tryz.prog 5=some (1,1,some #[.int .u8 0]):=by kernel_rfl
theorem nZz (k sec s ar:Int)(h:aZX k sec s ar=false)(H:Hp):Za Tryz.prog 77 #[.agg (bZi k sec s ar)] H (RetE (.tuple #[.slice none 0 0,.int .i64 1]) H):=by
 apply Za.ret;apply eZg.ok;unfold eZg;refine(Sep.start H).nw fun b1 H hs=>?_
 first|refine hs.ldw 1 rfl rfl ?_|refine hs.ldw 2 rfl rfl ?_|refine hs.ldw 3 rfl rfl ?_|refine hs.ldw 4 rfl rfl ?_|refine hs.ldw 5 rfl rfl ?_|refine hs.ldw 6 rfl rfl ?_|refine hs.ldw 7 rfl rfl ?_|refine hs.ldw 8 rfl rfl ?_
 try simp only[HV]
 refine Za.use (bZK k sec s ar H) ?_
 try simp only[HV]
 rw[h];exact hs.fin 0 rfl _
theorem eZA {x:Nat}(h:x<2^64):(UInt64.ofNat x).toNat=x:=UInt64.toNat_ofNat_of_lt' h
theorem Put_ok (k sec s ar:Int)(h:aZX k sec s ar=true)(hsec:sec≤9223372036854775807):Tr Tryz.prog 77 #[.agg (bZi k sec s ar)] [] fun v M=>∃ b,v= .tuple #[.slice (some ⟨b,0,none⟩) s.toNat s.toNat,.int .i64 0]∧M=[pts b (.row (Zm (bZQ k sec s ar)) 5 s.toNat)]:=fun H _=>by
 have hg:=h;unfold aZX at hg;simp only[decide_eq_true_eq]at hg;obtain⟨h1,h2,h3,h4,h5,h6⟩:=hg;obtain⟨kn,rfl⟩:=Int.eq_ofNat_of_zero_le h1;have hp:=jZM s;have hlog:=hZ8 s;have hlen:=iZG kn sec s ar h3;apply eZg.ok;unfold eZg;simp only[HS];refine(Sep.start H).nw fun b1 H hs=>?_
 first|refine hs.ldw 1 rfl rfl ?_|refine hs.ldw 2 rfl rfl ?_|refine hs.ldw 3 rfl rfl ?_|refine hs.ldw 4 rfl rfl ?_|refine hs.ldw 5 rfl rfl ?_|refine hs.ldw 6 rfl rfl ?_|refine hs.ldw 7 rfl rfl ?_|refine hs.ldw 8 rfl rfl ?_
 try simp only[HV]
 refine Za.use (bZK kn sec s ar H) ?_
 try simp only[HV]
 rw[h];simp only[HV]
 first|refine hs.ldw 1 rfl rfl ?_|refine hs.ldw 2 rfl rfl ?_|refine hs.ldw 3 rfl rfl ?_|refine hs.ldw 4 rfl rfl ?_|refine hs.ldw 5 rfl rfl ?_|refine hs.ldw 6 rfl rfl ?_|refine hs.ldw 7 rfl rfl ?_|refine hs.ldw 8 rfl rfl ?_
 try simp only[HV]
 refine ZM.use (nZQ kn sec s ar (by omega) h3 H) ?_
 try simp only[HV]
 first|refine hs.ld 1 rfl rfl ?_|refine hs.ld 2 rfl rfl ?_|refine hs.ld 3 rfl rfl ?_|refine hs.ld 4 rfl rfl ?_|refine hs.ld 5 rfl rfl ?_|refine hs.ld 6 rfl rfl ?_|refine hs.ld 7 rfl rfl ?_|refine hs.ld 8 rfl rfl ?_
 try simp only[HV]
 first|refine hs.ld 1 rfl rfl ?_|refine hs.ld 2 rfl rfl ?_|refine hs.ld 3 rfl rfl ?_|refine hs.ld 4 rfl rfl ?_|refine hs.ld 5 rfl rfl ?_|refine hs.ld 6 rfl rfl ?_|refine hs.ld 7 rfl rfl ?_|refine hs.ld 8 rfl rfl ?_
 try simp only[HV]
 rw[eZc (x:=sec) (by omega) (by omega),eZc (x:=ar) (by omega) (by omega)];have hw:([.int .u64 ((UInt64.ofNat (bZo kn s)).toNat:Int),.int .u64 sec,.int .u64 ar]:List Value)=Zc (fZ4 kn sec s ar):=by
  unfold fZ4 Zc;simp only[List.map_cons,List.map_nil,Int.toNat_natCast];rw[eZA (x:=sec.toNat) (by omega),eZA (x:=ar.toNat) (by omega)];rw[show((sec.toNat:Nat):Int)=sec by omega,show((ar.toNat:Nat):Int)=ar by omega]
 rw[hw];refine hs.nw fun b2 H hs=>?_
 first|refine hs.ld 1 rfl rfl ?_|refine hs.ld 2 rfl rfl ?_|refine hs.ld 3 rfl rfl ?_|refine hs.ld 4 rfl rfl ?_|refine hs.ld 5 rfl rfl ?_|refine hs.ld 6 rfl rfl ?_|refine hs.ld 7 rfl rfl ?_|refine hs.ld 8 rfl rfl ?_
 try simp only[HV]
 refine hs.mks nZL rfl (n:=s.toNat) (m:=s.toNat) (by omega) (by omega) (Nat.le_refl _) (by omega) (by omega) fun bo H hs=>?_
 simp only[HV];have hc2:∀ H,H b2=some (.row (Zc (fZ4 kn sec s ar)) 82 3)→Cells H (some ⟨b2,0,none⟩) (Zc (fZ4 kn sec s ar)):=fun H hb=>Cells.row hb 0 3
 refine Za.use (CrcP.iZn (some ⟨b2,0,none⟩) 3 3 (fZ4 kn sec s ar) rfl (by omega) H (hc2 H (hs.get 2 rfl))) ?_
 try simp only[HV]
 have hsum:=(Go.Crc.sum (form (fZ4 kn sec s ar))).isLt;rw[bZ6 (n:=(Go.Crc.sum (form (fZ4 kn sec s ar))).toNat) (by omega)];have hs:Sep [own _,pts b1 _,Own 82 1 (some ⟨b2,0,none⟩) 3 3 (Zc (fZ4 kn sec s ar)),pts bo (.row (aZq [.int .u8 0] s.toNat) 5 (s.toNat*1))] H:=hs.turn 2 rfl fun H1 hH=>⟨rfl,.inr ⟨b2,3,rfl,hH,by omega⟩⟩
 refine hs.app1 2 (by rfl) bZO (by omega) (by rfl) (by omega) (by omega) fun A' m' H hs=>?_
 simp only[HV];have hw4:Zc (fZ4 kn sec s ar)++[.int .u64 ((Go.Crc.sum (form (fZ4 kn sec s ar))).toNat:Int)]=Zc (gZT kn sec s ar):=by
  unfold gZT Zc;rw[List.map_append];congr 1;simp only[List.map_cons,List.map_nil];rw[eZA (by omega)]
 rw[hw4]at hs;have hc4:Cells H A' (Zc (gZT kn sec s ar)):=by
  obtain⟨_,h7⟩:=hs.own 2 rfl;rcases h7 with⟨_,h8,_⟩|⟨b,mm,rfl,h8,_⟩
  ·omega
  ·exact Cells.row h8 0 4
 refine(FormP.Put_ok A' 4 m' (gZT kn sec s ar) rfl (by omega) H hc4).mono ?_;rintro v H' ⟨b4,hb4,rfl,rfl⟩;have hs:=hs.new hb4 (.row (Zm (form (gZT kn sec s ar))) 5 (8*4));simp only[HV];have hf:(form (gZT kn sec s ar)).length=32:=by rw[aZ0];rfl
 have hmin:Nat.min 32 s.toNat=32:=by
  have:4≤ZP s:=by
   rcases hlog with h|h
   ·rw[h.2.2.2.2];have:2^2≤2^(cZq s-3).toNat:=Nat.pow_le_pow_right (by omega) (by omega);omega
   ·omega
  exact Nat.min_eq_left (by omega)
 refine hs.cp 3 (k:=32) (n:=s.toNat) (ys:=Zm (form (gZT kn sec s ar))) (by rfl) nZL rfl ?_ ?_ (fun y hy=>?_) fun H hs=>?_
 ·rw[hmin];refine iZg ?_ (by rw[ZJ,hf]);have:=Cells.row (hs.get 4 (b:=b4) (o:=.row (Zm (form (gZT kn sec s ar))) 5 (8*4)) rfl) 0 32;rw[List.drop_zero,List.take_of_length_le (by rw[ZJ,hf];exact Nat.le_refl _)]at this;exact this
 ·rw[ZJ,hf,bZz];rw[← hmin];simp;exact Nat.min_le_right _ _
 ·obtain⟨x,_,rfl⟩:=List.mem_map.1 hy;rfl
 simp only[HV];refine⟨_,⟨bo,rfl,rfl⟩,?_⟩;have hs:=hs.re [3] rfl;have e:setAt (aZq [.int .u8 0] s.toNat) 0 (Zm (form (gZT kn sec s ar)))=Zm (bZQ kn sec s ar):=by
  unfold bZQ;rw[hZL,bZA];unfold setAt;rw[ZJ,hf];simp[Zm]
 rw[e,Nat.mul_one]at hs;exact hs
end Go.Proofs.YtgfildcgihbdaaaGreatDoor.Sup
namespace Go.Proofs.YtgfildcgihbdaaaGreatDoor.Sup
open Go Go.Hw Go.Form W Lay
theorem hZS (A:OA)(n m:Nat)(H:Hp):Za Tryz.prog 135 #[.slice A n m] H (RetE (.bool (decide (0<ZP n))) H):=by
 apply eZH.ok;unfold eZH;refine Za.use (jZB 0 n H) ?_
 try simp only[HV]
 unfold gZm;by_cases h:0<ZP n
 ·rw[if_pos (by omega)];exact RetE.of (by simp[h])
 ·rw[if_neg (by omega)];exact RetE.of (by simp[h])
def iZb (bs:List UInt8):Bool:=(bs.drop 32).all (· ==0)
theorem wZE (b:UInt8):((b.toNat:Int) !=0)= !(b==0):=by
 by_cases h:b=0
 ·subst h;rfl
 ·have:b.toNat≠0:=fun e=>h (UInt8.toNat_inj.1 (by rw[e];rfl))
  have h2:(b==0)=false:=by simpa using h
  rw[h2];simp;omega
theorem jZZ (K:VK)(A:OA)(n m:Nat)(bs:List UInt8)(hn:n=bs.length)(hm:n≤9000000000000000000)(H:Hp)(hb:Cells H A (Zm bs))(r:Bool)(hK:K (.bool (bs.all (· ==0))) H):∀ d j:Nat,j+d=n→(bs.take j).all (· ==0)=true→
  aZw.l2 K (d+1) A n m (n:Int) (j:Int) H
 |0,j,hj,h0=>by
  unfold aZw.l2;refine Zh (by omega) ?_;rw[List.take_of_length_le (by omega)]at h0;rw[h0]at hK;exact hK
 |d+1,j,hj,h0=>by
  unfold aZw.l2;refine Zn (by omega) ?_;have hlt:j<bs.length:=by omega
  refine hb.read (i:=j) (v:=.int .u8 (bs[j].toNat:Int)) (by rw[hZq,List.getElem?_eq_getElem hlt];rfl) rfl (by rw[ZJ];omega) ?_;simp only[HV];rw[wZE];by_cases h:bs[j]=0
  ·refine aZb (by simp[h]) ?_;rw[ZL (by omega) (by omega)];refine jZZ K A n m bs hn hm H hb r hK d (j+1) (by omega) ?_;rw[List.take_succ_eq_append_getElem hlt,List.all_append,h0];simp[h]
  ·refine aZt (by simp[h]) ?_;have:bs.all (· ==0)=false:=by
    rw[List.all_eq_false];exact⟨bs[j],List.getElem_mem hlt,by simpa using h⟩
   rw[this]at hK;exact hK
theorem qZ6 (A:OA)(n m:Nat)(hnm:n≤m)(bs:List UInt8)(hn:n=bs.length)(h32:32≤n)(hm:n≤9000000000000000000)(H:Hp)(hb:Cells H A (Zm bs)):
  Za Tryz.prog 137 #[.slice A n m] H (RetE (.bool (iZb bs)) H):=by
 apply aZw.ok;unfold aZw;refine⟨by omega,by omega,n-32+1,?_⟩;have h1:=hb.shift (m:=m) (l:=32) (by rw[ZJ];omega);rw[show(Zm bs).drop 32=Zm (bs.drop 32) by unfold Zm;rw[List.map_drop]]at h1;exact jZZ _ _ (n-32) (m-32) (bs.drop 32) (by simp;omega) (by omega) H h1 true (RetE.mk _ _) (n-32) 0 (by omega) rfl
abbrev Sb :=Int×Int×Int×Int
def sbV (x:Sb):Array Value:=bZi x.1 x.2.1 x.2.2.1 x.2.2.2
def lZP (a b c:Nat):Nat:=(Go.Crc.sum (form [UInt64.ofNat a,UInt64.ofNat b,UInt64.ofNat c])).toNat
def eZl (bs:List UInt8):Sb:=(((Zs bs 0/65536%65536:Nat):Int),i64.wrap (Zs bs 8:Nat),((bs.length:Nat):Int),i64.wrap (Zs bs 16:Nat))
def aZW (bs:List UInt8):Sb×Int:=
 if ZP bs.length=0 then((0,0,0,0),15)
 else if Zs bs 0/4294967296≠1094861123∨iZb bs=false then((0,0,0,0),10)
 else if Zs bs 24≠lZP (Zs bs 0) (Zs bs 8) (Zs bs 16)then((0,0,0,0),9)
 else if aZX (eZl bs).1 (eZl bs).2.1 (eZl bs).2.2.1 (eZl bs).2.2.2=true∧((Zs bs 0%65536:Nat):Int)=cZq bs.length then(eZl bs,0)
 else((0,0,0,0),1)
theorem sZj (bs:List UInt8):([.int .u64 (Zs bs 0:Nat),.int .u64 (Zs bs 8:Nat),.int .u64 (Zs bs 16:Nat)]:List Value)=Zc [UInt64.ofNat (Zs bs 0),UInt64.ofNat (Zs bs 8),UInt64.ofNat (Zs bs 16)]:=by
 unfold Zc;simp only[List.map_cons,List.map_nil];rw[eZA (cZN bs 0),eZA (cZN bs 8),eZA (cZN bs 16)]
theorem uZx (a b c:Nat):lZP a b c<2^32:=(Go.Crc.sum _).isLt
theorem nZ5 {n:Int}(h:0<ZP n):n=((2^(cZq n).toNat:Nat):Int)∧5≤cZq n∧cZq n≤12:=by
 unfold ZP at h;unfold cZq
 repeat' split
 all_goals first|(subst_vars;refine⟨by decide,by decide,by decide⟩)|skip
 repeat' split at h
 all_goals omega
theorem rZ3 {t:Nat}(h:t≤62):aZH .i64 1 (t:Int)=((2^t:Nat):Int):=gZj h
theorem sZ1 {a:Nat}(ha:a<2^64)(hm:a/4294967296=1094861123){sec ar n:Int}(hn:0<ZP n):
  (aZX ((a/65536%65536:Nat):Int) sec (aZH .i64 1 ((a%64:Nat):Int)) ar=true∧bZo (a/65536%65536) (aZH .i64 1 ((a%64:Nat):Int))=a∧aZH .i64 1 ((a%64:Nat):Int)=n)↔
   (aZX ((a/65536%65536:Nat):Int) sec n ar=true∧((a%65536:Nat):Int)=cZq n):=by
 obtain⟨h1,h2,h3⟩:=nZ5 hn;constructor
 ·rintro⟨g1,g2,g3⟩;rw[g3]at g1 g2;refine⟨g1,?_⟩;unfold bZo at g2;omega
 ·rintro⟨g1,g2⟩;obtain⟨t,ht⟩:=Int.eq_ofNat_of_zero_le (show 0≤cZq n by omega);have h64:a%64=t:=by omega
  have hv:aZH .i64 1 ((a%64:Nat):Int)=n:=by
   rw[h64,rZ3 (by omega),h1,ht];rfl
  rw[hv];refine⟨g1,?_,rfl⟩;unfold bZo;rw[ht]at g2⊢;have:(Int.toNat (t:Int))=t:=Int.toNat_natCast t;rw[this];omega
theorem hZb (K:VK)(d b1 b2:Nat)(A:OA)(n m:Nat)(hnm:n≤m)(hm:n≤9000000000000000000)(bs:List UInt8)(hn:n=bs.length)(h32:32≤n)(H0 H:Hp)(hb:Cells H0 A (Zm bs))(c:Array Value)(hc:c.size=4)(z:Array Value)(e1 e2:TypeId)(i:Nat)(hi:i<4)
  (hs:Sep [own H0,pts b1 (.obj (.cells z e1)),pts b2 (.obj (.cells c e2))] H)
  (k:∀ H,Sep [own H0,pts b1 (.obj (.cells z e1)),pts b2 (.obj (.cells (c.setIfInBounds i (.int .u64 (Zs bs (8*i):Nat))) e2))] H→aZi.l5 K d A n m ⟨b1,0,none⟩ ⟨b2,0,none⟩ ((i+1:Nat):Int) H):
  aZi.l5 K (d+1) A n m ⟨b1,0,none⟩ ⟨b2,0,none⟩ (i:Int) H:=by
 conv=>unfold aZi.l5 aZi.l5.q1
 refine Zn (by omega) ?_;refine Za.use (FormP.Word_ok A n m hnm hm bs hn i (by omega) H (hb.le (hs.ow 0 rfl))) ?_
 try simp only[HV]
 refine hs.stx 2 rfl (j:=i) rfl hi (by omega) rfl fun H hs=>?_;rw[ZL (x:=(i:Int)+1) (by omega) (by omega)];exact k H hs
theorem fZw (K:VK){L:List As}{H:Hp}(hs:Sep L H){b1:Nat}{z:Array Value}{e1:TypeId}(i:Nat)(hi:L[i]? =some (pts b1 (.obj (.cells z e1))))(hz:z.size=4)(e:Int)(y:Array Value)(hy:y.size=4)(hv:y.toList.all (fun v=>v.oneCell')=true)
  (hK:∀ H,Sep (L.set i (pts b1 (.obj (.cells y e1)))) H→K (.tuple #[.agg y,.int .i64 e]) H):StA H (⟨b1,0,none⟩:Addr) y 4 fun H3=>LdA H3 (⟨b1,0,none⟩:Addr) 4 fun l7=>K (.tuple #[.agg l7.toArray,.int .i64 e]) H3:=by
 refine hs.stw i hi hz hy hv fun H hs=>?_;have hlt:=(List.getElem?_eq_some_iff.1 hi).1;refine hs.ldw i (b:=b1) (c:=y) (e:=e1) (by rw[List.getElem?_set];simp[hlt]) hy ?_;rw[Array.toArray_toList];exact hK H hs
theorem hZ4 (A:OA)(n m:Nat)(hnm:n≤m)(hm:n≤9000000000000000000)(bs:List UInt8)(hn:n=bs.length)(H:Hp)(hb:Cells H A (Zm bs)):
  Za Tryz.prog 92 #[.slice A n m] H (RetE (.tuple #[.agg (sbV (aZW bs).1),.int .i64 (aZW bs).2]) H):=by
 apply Za.ret;apply aZi.ok;unfold aZi;refine(Sep.start H).nw fun b1 H' hs=>?_
 have fin:∀{L:List As} {H':Hp} (x:Sb) (e:Int),Sep L H'→L[0]? =some (own H)→aZW bs=(x,e)→Ret (.tuple #[.agg (sbV (aZW bs).1),.int .i64 (aZW bs).2]) H (.tuple #[.agg (sbV x),.int .i64 e]) H':=fun x e hs h0 he=>by
  rw[he];exact hs.fin 0 h0 _
 refine Za.use (hZS A n m H') ?_
 try simp only[HV]
 by_cases hp:ZP (n:Int)=0
 ·refine aZt (by simp;omega) ?_;refine fZw _ hs 1 rfl rfl 15 _ rfl rfl fun H' hs=>fin (0,0,0,0) 15 hs rfl ?_
  unfold aZW;rw[← hn,if_pos hp]
 refine aZb (by simp;omega) ?_;refine hs.nw fun b2 H' hs=>?_
 have hp':0<ZP (n:Int):=by omega
 have h32:32≤n:=by
  obtain⟨h1,h2,h3⟩:=nZ5 hp';have:2^5≤2^(cZq n).toNat:=Nat.pow_le_pow_right (by omega) (by omega);omega
 refine⟨5,?_⟩;refine hZb _ 4 b1 b2 A n m hnm hm bs hn h32 H H' hb _ rfl _ _ _ 0 (by omega) hs fun H' hs=>?_
 refine hZb _ 3 b1 b2 A n m hnm hm bs hn h32 H H' hb _ rfl _ _ _ 1 (by omega) hs fun H' hs=>?_
 refine hZb _ 2 b1 b2 A n m hnm hm bs hn h32 H H' hb _ rfl _ _ _ 2 (by omega) hs fun H' hs=>?_
 refine hZb _ 1 b1 b2 A n m hnm hm bs hn h32 H H' hb _ rfl _ _ _ 3 (by omega) hs fun H' hs=>?_
 have hs:Sep [own H,pts b1 (.obj (.cells #[.int .i64 0,.int .i64 0,.int .i64 0,.int .i64 0] 27)),pts b2 (.obj (.cells #[.int .u64 (Zs bs 0:Nat),.int .u64 (Zs bs 8:Nat),.int .u64 (Zs bs 16:Nat),.int .u64 (Zs bs 24:Nat)] 223))] H':=hs;have w0:=cZN bs 0;unfold aZi.l5 aZi.l5.q1;refine Zh (by omega) ?_;refine hs.ldx 2 rfl (j:=0) rfl (by omega) rfl ?_;simp only[HV];refine⟨by omega,?_⟩;refine hs.ldx 2 rfl (j:=0) rfl (by omega) rfl ?_;simp only[HV];rw[show aZn .u64 ((Zs bs 0:Nat):Int) 63=((Zs bs 0%64:Nat):Int) by rw[show(63:Int)=((63:Nat):Int)from rfl,lZO w0 (by omega),Nat.and_two_pow_sub_one_eq_mod _ 6]];refine⟨by omega,?_⟩;refine hs.ldx 2 rfl (j:=1) rfl (by omega) rfl ?_;simp only[HV];refine hs.ldx 2 rfl (j:=2) rfl (by omega) rfl ?_;simp only[HV];refine hs.nw fun b3 H' hs=>?_
 refine hs.stw 3 rfl rfl rfl rfl fun H' hs=>?_
 have e16:i64.wrap (aZn .u64 (aZm .u64 ((Zs bs 0:Nat):Int) 16) 65535)=((Zs bs 0/65536%65536:Nat):Int):=by
  rw[hZz (i:=(16:Int)) (n:=16) rfl (by decide),show(65535:Int)=((65535:Nat):Int)from rfl,lZO (by omega) (by omega),Nat.and_two_pow_sub_one_eq_mod _ 16,aZy (by omega)]
 rw[e16]at hs;refine hs.ldx 2 rfl (j:=0) rfl (by omega) rfl ?_;simp only[HV];refine⟨by omega,?_⟩;rw[hZz (i:=(32:Int)) (n:=32) rfl (by decide)];by_cases hmg:Zs bs 0/4294967296=1094861123
 ·refine Zq (by omega) ?_;refine Za.use (qZ6 A n m hnm bs hn h32 (by omega) H' (hb.le (hs.ow 0 rfl))) ?_
  try simp only[HV]
  by_cases hz:iZb bs=true
  ·refine aZb (by simp[hz]) ?_;refine hs.ldx 2 rfl (j:=3) rfl (by omega) rfl ?_;simp only[HV];refine⟨by omega,by omega,?_⟩;have hc3:=Cells.obj (hs.get 2 (b:=b2) (o:=.obj (.cells #[.int .u64 (Zs bs 0:Nat),.int .u64 (Zs bs 8:Nat),.int .u64 (Zs bs 16:Nat),.int .u64 (Zs bs 24:Nat)] 223)) rfl) 3;have hc3:Cells H' (some ⟨b2,0,none⟩) (Zc [UInt64.ofNat (Zs bs 0),UInt64.ofNat (Zs bs 8),UInt64.ofNat (Zs bs 16)]):=by
    rw[← sZj];exact hc3
   refine ZM.use (CrcP.iZn (some ⟨b2,0,none⟩) 3 4 _ rfl (by omega) H' hc3) ?_;simp only[HV];have hcl:=uZx (Zs bs 0) (Zs bs 8) (Zs bs 16);rw[show(Go.Crc.sum (form [UInt64.ofNat (Zs bs 0),UInt64.ofNat (Zs bs 8),UInt64.ofNat (Zs bs 16)])).toNat=lZP (Zs bs 0) (Zs bs 8) (Zs bs 16)from rfl,bZ6 (by omega)];by_cases hcr:Zs bs 24=lZP (Zs bs 0) (Zs bs 8) (Zs bs 16)
   ·refine Zq (by omega) ?_;refine hs.ldw 3 rfl rfl ?_;have hiff:=sZ1 w0 hmg (sec:=i64.wrap (Zs bs 8:Nat)) (ar:=i64.wrap (Zs bs 16:Nat)) hp';have hno:¬(aZX (eZl bs).1 (eZl bs).2.1 (eZl bs).2.2.1 (eZl bs).2.2.2=true∧((Zs bs 0%65536:Nat):Int)=cZq bs.length)→aZW bs=((0,0,0,0),1):=fun h=>by
     unfold aZW;rw[← hn,if_neg (by omega),if_neg (by simp[hmg,hz]),if_neg (by simp[hcr]),if_neg (by rw[hn];exact h)]
    have hyes:(aZX (eZl bs).1 (eZl bs).2.1 (eZl bs).2.2.1 (eZl bs).2.2.2=true∧((Zs bs 0%65536:Nat):Int)=cZq bs.length)→aZW bs=(eZl bs,0):=fun h=>by
     unfold aZW;rw[← hn,if_neg (by omega),if_neg (by simp[hmg,hz]),if_neg (by simp[hcr]),if_pos (by rw[hn];exact h)]
    have hsb:eZl bs=(((Zs bs 0/65536%65536:Nat):Int),i64.wrap (Zs bs 8:Nat),(n:Int),i64.wrap (Zs bs 16:Nat)):=by unfold eZl;rw[hn]
    rw[hsb]at hno hyes;simp only at hno hyes;rw[← hn]at hno hyes;rw[← hiff]at hno hyes;refine ZM.use (bZK ((Zs bs 0/65536%65536:Nat):Int) (i64.wrap (Zs bs 8:Nat)) (aZH .i64 1 ((Zs bs 0%64:Nat):Int)) (i64.wrap (Zs bs 16:Nat)) H') ?_;simp only[HV];by_cases hg:aZX ((Zs bs 0/65536%65536:Nat):Int) (i64.wrap (Zs bs 8:Nat)) (aZH .i64 1 ((Zs bs 0%64:Nat):Int)) (i64.wrap (Zs bs 16:Nat))=true
    ·refine aZb (by rw[hg];rfl) ?_;refine hs.ldw 3 rfl rfl ?_;have hg2:=hg;unfold aZX at hg2;simp only[decide_eq_true_eq]at hg2;refine ZM.use (nZQ (Zs bs 0/65536%65536) (i64.wrap (Zs bs 8:Nat)) (aZH .i64 1 ((Zs bs 0%64:Nat):Int)) (i64.wrap (Zs bs 16:Nat)) (by omega) hg2.2.2.1 H') ?_;simp only[HV];have hf64:bZo (Zs bs 0/65536%65536) (aZH .i64 1 ((Zs bs 0%64:Nat):Int))<2^64:=by
      have:=rZD (aZH .i64 1 ((Zs bs 0%64:Nat):Int));unfold bZo;omega
     rw[eZA hf64];refine hs.ldx 2 rfl (j:=0) rfl (by omega) rfl ?_;simp only[HV];by_cases hf:bZo (Zs bs 0/65536%65536) (aZH .i64 1 ((Zs bs 0%64:Nat):Int))=Zs bs 0
     ·refine Zq (by omega) ?_;simp only[HS];refine hs.ld 3 rfl rfl ?_;simp only[HV];by_cases hv:aZH .i64 1 ((Zs bs 0%64:Nat):Int)=(n:Int)
      ·refine Zq hv ?_;refine hs.ldw 3 rfl rfl ?_;have hy:=hyes ⟨hg,hf,hv⟩;rw[hv];refine fZw _ hs 1 rfl rfl 0 _ rfl rfl fun H' hs=>fin _ 0 hs rfl hy
      ·refine ZB hv ?_;refine fZw _ hs 1 rfl rfl 1 _ rfl rfl fun H' hs=>fin (0,0,0,0) 1 hs rfl (hno fun h=>hv h.2.2)
     ·refine ZB (by omega) ?_;refine fZw _ hs 1 rfl rfl 1 _ rfl rfl fun H' hs=>fin (0,0,0,0) 1 hs rfl (hno fun h=>hf h.2.1)
    ·refine aZt (by rw[Bool.not_eq_true]at hg;rw[hg];rfl) ?_;refine fZw _ hs 1 rfl rfl 1 _ rfl rfl fun H' hs=>fin (0,0,0,0) 1 hs rfl (hno fun h=>hg h.1)
   ·refine ZB (by omega) ?_;refine fZw _ hs 1 rfl rfl 9 _ rfl rfl fun H' hs=>fin (0,0,0,0) 9 hs rfl ?_
    unfold aZW;rw[← hn,if_neg (by omega),if_neg (by simp[hmg,hz]),if_pos hcr]
  ·refine aZt (by simp[hz]) ?_;refine fZw _ hs 1 rfl rfl 10 _ rfl rfl fun H' hs=>fin (0,0,0,0) 10 hs rfl ?_
   unfold aZW;rw[← hn,if_neg (by omega),if_pos (.inr (by simpa using hz))]
 ·refine ZB (by omega) ?_;refine fZw _ hs 1 rfl rfl 10 _ rfl rfl fun H' hs=>fin (0,0,0,0) 10 hs rfl ?_
  unfold aZW;rw[← hn,if_neg (by omega),if_pos (.inl hmg)]
end Go.Proofs.YtgfildcgihbdaaaGreatDoor.Sup
namespace Go.Proofs.YtgfildcgihbdaaaGreatDoor.Sup
open Go Go.Hw Go.Form W Lay
theorem mZb (k sec s ar:Int)(H:Hp):Za Tryz.prog 69 #[.agg (bZi k sec s ar)] H (RetE (if aZX k sec s ar=true then .tuple #[.agg (bZF k.toNat (ZP s)),.int .i64 0]else .tuple #[.agg lZT,.int .i64 1]) H):=by
 apply Za.ret;apply eZG.ok;unfold eZG;simp only[HS];refine(Sep.start H).nw fun b1 H' hs=>?_
 refine hs.nw fun b2 H' hs=>?_
 first|refine hs.ldw 1 rfl rfl ?_|refine hs.ldw 2 rfl rfl ?_|refine hs.ldw 3 rfl rfl ?_|refine hs.ldw 4 rfl rfl ?_|refine hs.ldw 5 rfl rfl ?_|refine hs.ldw 6 rfl rfl ?_|refine hs.ldw 7 rfl rfl ?_|refine hs.ldw 8 rfl rfl ?_
 try simp only[HV]
 refine Za.use (bZK k sec s ar H') ?_
 try simp only[HV]
 by_cases h:aZX k sec s ar=true
 ·rw[if_pos h,h];simp only[HV];have hg:=h;unfold aZX at hg;simp only[decide_eq_true_eq]at hg
  first|refine hs.ld 1 rfl rfl ?_|refine hs.ld 2 rfl rfl ?_|refine hs.ld 3 rfl rfl ?_|refine hs.ld 4 rfl rfl ?_|refine hs.ld 5 rfl rfl ?_|refine hs.ld 6 rfl rfl ?_|refine hs.ld 7 rfl rfl ?_|refine hs.ld 8 rfl rfl ?_
  try simp only[HV]
  first|refine hs.ld 1 rfl rfl ?_|refine hs.ld 2 rfl rfl ?_|refine hs.ld 3 rfl rfl ?_|refine hs.ld 4 rfl rfl ?_|refine hs.ld 5 rfl rfl ?_|refine hs.ld 6 rfl rfl ?_|refine hs.ld 7 rfl rfl ?_|refine hs.ld 8 rfl rfl ?_
  try simp only[HV]
  first|refine hs.ld 1 rfl rfl ?_|refine hs.ld 2 rfl rfl ?_|refine hs.ld 3 rfl rfl ?_|refine hs.ld 4 rfl rfl ?_|refine hs.ld 5 rfl rfl ?_|refine hs.ld 6 rfl rfl ?_|refine hs.ld 7 rfl rfl ?_|refine hs.ld 8 rfl rfl ?_
  try simp only[HV]
  refine Za.use (eZn k sec s H') ?_
  try simp only[HV]
  have:OfV k sec s=(bZF k.toNat (ZP s),0):=by unfold OfV;rw[if_pos (by omega),if_neg (by omega)]
  rw[this];refine hs.stw 2 rfl rfl rfl rfl fun H' hs=>?_
  refine hs.ldw 2 rfl rfl ?_;exact hs.fin 0 rfl _
 ·rw[Bool.not_eq_true]at h;rw[if_neg (by rw[h];simp),h];simp only[HV];refine hs.stw 2 rfl rfl rfl rfl fun H' hs=>?_
  refine hs.ldw 2 rfl rfl ?_;exact hs.fin 0 rfl _
end Go.Proofs.YtgfildcgihbdaaaGreatDoor.Sup
namespace Go.Proofs.YtgfildcgihbdaaaGreatDoor.Sup
open Go Go.Hw Go.Form W Lay Dsk
theorem kZu :∀ n,leN (List.replicate n 0)=0
 |0=>rfl
 |n+1=>by
  rw[List.replicate_succ];show(0:UInt8).toNat+256*leN (List.replicate n 0)=0
  rw[kZu n];rfl
theorem qZv (s:Nat)(hs:0<ZP s):aZW (List.replicate s 0)=((0,0,0,0),10):=by
 unfold aZW;rw[List.length_replicate,if_neg (by omega),if_pos];left;have:Zs (List.replicate s 0) 0=0:=by
  unfold Zs;rw[List.drop_zero,List.take_replicate,kZu]
 rw[this];decide
def ofB (d:D)(sec s:Int):Bool:=decide (sec=d.sec∧s=d.size)
theorem nZj {L:List As}{H:Hp}{p:Nat}{d:D}(hs0:Sep L H)(i:Nat)(hi:L[i]? =some (Dk p d))(k sec s ar:Int):Za Tryz.prog 78 #[.pointer (some ⟨p,0,none⟩),.agg (bZi k sec s ar)] H (RetE (.bool (ofB d sec s)) H):=by
 apply Za.ret;apply gZ3.ok;unfold gZ3;refine(Sep.start H).nw fun b1 H' hs=>?_
 have hle:=hs.ow 0 rfl;refine hs.ld 1 rfl rfl ?_;simp only[HV]
 try simp only[HS]
 refine ZM.use (eZs (hs0.up hle) i hi) ?_;simp only[HV];by_cases h1:sec=d.sec
 ·refine ZV h1 (hs.ld 1 rfl rfl ?_);simp only[HV]
  try simp only[HS]
  refine ZM.use (hZn (hs0.up hle) i hi) ?_;simp only[HV];have e:(s==(d.size:Int))=ofB d sec s:=by
   unfold ofB;by_cases h2:s=d.size
   ·simp[h1,h2]
   ·simp[h2]
  rw[e];exact hs.fin 0 rfl _
 ·refine aZd h1 ?_;have e:ofB d sec s=false:=by unfold ofB;simp[h1]
  rw[e];exact hs.fin 0 rfl _
def wrV (d:D)(k sec s ar:Int):Int×D:=
 if aZX k sec s ar=false∨ofB d sec s=false then(1,d)
 else if d.writeE 0 s.toNat≠0 then(d.writeE 0 s.toNat,d.writeD 0 (bZQ k sec s ar))
 else((d.writeD 0 (bZQ k sec s ar)).syncE,(d.writeD 0 (bZQ k sec s ar)).syncD)
theorem rZ2 {p:Nat}{d:D}(hok:Ok d)(hb:d.wr≤1000000∧d.sy≤1000000)(k sec s ar:Int)(hsec:sec≤9223372036854775807):
  Tr Tryz.prog 50 #[.pointer (some ⟨p,0,none⟩),.agg (bZi k sec s ar)] [Dk p d] fun v M=>v= .int .i64 (wrV d k sec s ar).1∧M=[Dk p (wrV d k sec s ar).2]:=fun H hs=>by
 apply fZi.ok;unfold fZi;refine hs.nw fun b1 H hs=>?_
 refine hs.ldw 1 rfl rfl ?_;cases hg:aZX k sec s ar with
 |false=>
  refine Za.use (nZz k sec s ar hg H) ?_;simp only[HV];have e:wrV d k sec s ar=(1,d):=by unfold wrV;rw[if_pos (.inl hg)]
  rw[e];exact ZB (by omega) ⟨_,⟨rfl,rfl⟩,hs.re [0] rfl⟩
 |true=>
  refine(Put_ok k sec s ar hg hsec).use hs [] rfl rfl ?_;rintro _ _ H ⟨b,rfl,rfl⟩ hs;simp only[HV];refine Zq rfl ?_;have hs:Sep [pts b (.row (Zm (bZQ k sec s ar)) 5 s.toNat),Dk p d,pts b1 (.obj (.cells (bZi k sec s ar) 27))] H:=hs;refine hs.ldw 2 rfl rfl ?_;refine Za.use (nZj hs 1 rfl k sec s ar) ?_;simp only[HV];cases ho:ofB d sec s with
  |false=>
   have e:wrV d k sec s ar=(1,d):=by unfold wrV;rw[if_pos (.inr ho)]
   rw[e];exact aZt rfl ⟨_,⟨rfl,rfl⟩,hs.re [1] rfl⟩
  |true=>
   refine aZb rfl ?_;have hper:0<ZP s:=by
    unfold aZX at hg;simp only[decide_eq_true_eq]at hg;exact hg.2.2.1
   have hl:=iZG k sec s ar hper;refine(dZ2 (p:=p) (d:=d) hok (by omega) 0 (some ⟨b,0,none⟩) s.toNat s.toNat (bZQ k sec s ar) (by omega) (pts b (.row (Zm (bZQ k sec s ar)) 5 s.toNat)) (fun H h=>?_)).use hs [1,0] rfl rfl ?_
   ·have:=Cells.row h 0 s.toNat;rw[List.drop_zero,List.take_of_length_le (by rw[ZJ];omega)]at this;exact this
   rintro _ _ H ⟨rfl,rfl⟩ hs;simp only[HV];by_cases he:d.writeE 0 s.toNat=0
   ·refine Zq he ?_;have e:wrV d k sec s ar=((d.writeD 0 (bZQ k sec s ar)).syncE,(d.writeD 0 (bZQ k sec s ar)).syncD):=by
     unfold wrV;rw[if_neg (by rw[hg,ho];simp),if_neg (by rw[he];simp)]
    have hsy:(d.writeD 0 (bZQ k sec s ar)).sy=d.sy:=by
     have hbr:=bZW d;unfold D.writeD;split
     ·rfl
     ·split
      ·rfl
      ·split
       ·exact hbr.2.2.1
       ·exact hbr.2.2.1
    refine(hZf (p:=p) (d:=d.writeD 0 (bZQ k sec s ar)) (Ok.writeD hok 0 _) (by rw[hsy];omega)).use hs [0] rfl rfl ?_;rintro _ _ H ⟨rfl,rfl⟩ hs;simp only[HV];rw[e];exact⟨_,⟨rfl,rfl⟩,hs.re [0] rfl⟩
   ·have e:wrV d k sec s ar=(d.writeE 0 s.toNat,d.writeD 0 (bZQ k sec s ar)):=by
     unfold wrV;rw[if_neg (by rw[hg,ho];simp),if_pos he]
    rw[e];exact ZB he ⟨_,⟨rfl,rfl⟩,hs.re [0] rfl⟩
def rdV (d:D)(bs:List UInt8):Sb×Int:=
 if(aZW bs).2≠0 then((0,0,0,0),(aZW bs).2)else if ofB d (aZW bs).1.2.1 (aZW bs).1.2.2.1=true then((aZW bs).1,0)else((0,0,0,0),1)
theorem tZl {p:Nat}{d:D}(hok:Ok d)(ho:d.rd≤1000000)(hc:d.chk 0=0)(hb:d.burns=false):
  Tr Tryz.prog 64 #[.pointer (some ⟨p,0,none⟩)] [Dk p d] fun v M=>v= .tuple #[.agg (sbV (rdV d (d.now 0)).1),.int .i64 (rdV d (d.now 0)).2]∧M=[Dk p { d.burnt with rd:=d.rd+1}]:=fun H hs=>by
 have hnow:=hok.now 0;have hsz:=hok.size;have hbr:=bZW d;apply dZO.ok;unfold dZO;refine hs.nw fun b1 H hs=>?_
 refine(jZC (p:=p) (d:=d) hok (by omega) 0).use hs [0] rfl rfl ?_;rintro _ _ H (⟨h,_⟩|⟨_,h,_⟩|⟨_,_,b,c,m,rfl,hcc,rfl⟩) hs
 ·exact absurd hc h
 ·rw[hb]at h;cases h
 ·simp only[HV];refine Zq rfl ?_;have hcell:Cells H (some ⟨b,0,none⟩) (Zm (d.now 0)):=by
   have:=Cells.row (hs.get 1 (b:=b) (o:=.row (Zm (d.now 0)) 5 m) rfl) 0 d.size;rw[List.drop_zero,List.take_of_length_le (by rw[ZJ];omega)]at this;exact this
  refine Za.use (hZ4 (some ⟨b,0,none⟩) d.size c hcc (by omega) (d.now 0) hnow.symm H hcell) ?_;simp only[HV];have hof:∀ x y,ofB { d.burnt with rd:=d.rd+1} x y=ofB d x y:=fun x y=>by
   unfold ofB;show decide (x=(d.burnt.sec:Int)∧y=(d.burnt.size:Int))=_
   rw[hbr.2.2.2.2.1,hbr.2.2.2.1]
  unfold rdV;generalize aZW (d.now 0)=tv at*;obtain⟨⟨k,sec,s,ar⟩,e⟩:=tv;have hs:Sep [Dk p { d.burnt with rd:=d.rd+1},pts b (.row (Zm (d.now 0)) 5 m),pts b1 (.obj (.cells (bZi 0 0 0 0) 27))] H:=hs;refine hs.nw fun b2 H hs=>?_
  refine hs.stw 3 (y:=bZi k sec s ar) rfl rfl rfl rfl fun H hs=>?_;have hs:Sep [Dk p { d.burnt with rd:=d.rd+1},pts b (.row (Zm (d.now 0)) 5 m),pts b1 (.obj (.cells (bZi 0 0 0 0) 27)),pts b2 (.obj (.cells (bZi k sec s ar) 27))] H:=hs;by_cases he:e=0
  ·refine Zq he ?_;refine hs.ldw 3 rfl rfl ?_;refine Za.use (nZj hs 0 rfl k sec s ar) ?_;rw[hof];simp only[HV];cases hob:ofB d sec s with
   |false=>
    refine aZt rfl ?_;refine hs.stw 2 rfl rfl rfl rfl fun H hs=>?_;refine hs.ldw 2 rfl rfl ?_;refine⟨_,⟨?_,rfl⟩,hs.re [0] rfl⟩;rw[if_neg (by simpa using he),if_neg (by simp)];rfl
   |true=>
    refine aZb rfl ?_;refine hs.ldw 3 rfl rfl ?_;refine hs.stw 2 rfl rfl rfl rfl fun H hs=>?_;refine hs.ldw 2 rfl rfl ?_;refine⟨_,⟨?_,rfl⟩,hs.re [0] rfl⟩;rw[if_neg (by simpa using he),if_pos rfl];rfl
  ·refine ZB he ?_;refine hs.stw 2 rfl rfl rfl rfl fun H hs=>?_;refine hs.ldw 2 rfl rfl ?_;refine⟨_,⟨?_,rfl⟩,hs.re [0] rfl⟩;rw[if_pos (by simpa using he)];rfl
end Go.Proofs.YtgfildcgihbdaaaGreatDoor.Sup
namespace Go.Proofs.YtgfildcgihbdaaaGreatDoor.Eng
open Go Go.Hw Go.Form Dsk Str Rec Srt Rng Pln
structure Log (L:List R):Prop where
 u:∀ r∈L,r.u32
 g:∀ r∈L,r.good
 hd:∀ r,L[0]? =some r→r.s=1∧r.kd=1
 ch:∀ i a b,L[i]? =some a→L[i+1]? =some b→after a b
theorem Log.nil :Log []:=⟨fun _ h=>(by cases h),fun _ h=>(by cases h),fun _ h=>(by simp at h),fun _ _ _ h=>(by simp at h)⟩
theorem Log.snoc {L:List R}(h:Log L){r:R}(hg:r.good)(hu:r.u32)(hm:cZy L.getLast? r=true):Log (L++[r]):=by
 refine⟨fun x hx=>?_,fun x hx=>?_,fun x hx=>?_,fun i a b ha hb=>?_⟩
 ·rcases List.mem_append.1 hx with h1|h1
  ·exact h.u x h1
  ·rw[List.mem_singleton.1 h1];exact hu
 ·rcases List.mem_append.1 hx with h1|h1
  ·exact h.g x h1
  ·rw[List.mem_singleton.1 h1];exact hg
 ·cases L with
  |nil=>
   have:r=x:=by simpa using hx
   subst this;exact of_decide_eq_true hm
  |cons y L=>exact h.hd x (by simpa using hx)
 ·have hb2:=hb;rw[List.getElem?_append]at ha hb;have hlt:=(List.getElem?_eq_some_iff.1 hb2).1;rw[List.length_append,List.length_singleton]at hlt;rw[if_pos (by omega)]at ha;by_cases e:i+1<L.length
  ·rw[if_pos e]at hb;exact h.ch i a b ha hb
  ·rw[if_neg e]at hb;have e2:i+1-L.length=0:=by omega
   rw[e2]at hb;have:r=b:=by simpa using hb
   subst this;have hl:L.getLast? =some a:=by rw[List.getLast?_eq_getElem?,show L.length-1=i by omega];exact ha
   rw[hl]at hm;exact of_decide_eq_true hm
theorem Log.init {L:List R}{r:R}(h:Log (L++[r])):Log L∧r.good∧r.u32∧cZy L.getLast? r=true:=by
 refine⟨⟨fun x hx=>h.u x (List.mem_append_left _ hx),fun x hx=>h.g x (List.mem_append_left _ hx),fun x hx=>?_,fun i a b ha hb=>?_⟩,h.g r (by simp),h.u r (by simp),?_⟩
 ·exact h.hd x (by rw[List.getElem?_append_left (List.getElem?_eq_some_iff.1 hx).1];exact hx)
 ·exact h.ch i a b (by rw[List.getElem?_append_left (List.getElem?_eq_some_iff.1 ha).1];exact ha) (by rw[List.getElem?_append_left (List.getElem?_eq_some_iff.1 hb).1];exact hb)
 ·cases hl:L.getLast? with
  |none=>
   rw[List.getLast?_eq_none_iff]at hl;subst hl;exact decide_eq_true (h.hd r (by simp))
  |some a=>
   have hn:L≠ []:=fun e=>by rw[e]at hl;simp at hl
   have hp:=List.length_pos_iff.2 hn;rw[List.getLast?_eq_getElem?]at hl;refine decide_eq_true (h.ch (L.length-1) a r ?_ ?_)
   ·rw[List.getElem?_append_left (by omega)];exact hl
   ·rw[show L.length-1+1=L.length by omega,List.getElem?_append_right (Nat.le_refl _),Nat.sub_self];rfl
theorem Log.num {L:List R}(h:Log L):∀ i a,L[i]? =some a→a.s=i+1
 |0,a,ha=>(h.hd a ha).1
 |i+1,a,ha=>by
  have hlt:=(List.getElem?_eq_some_iff.1 ha).1;have hb:L[i]? =some L[i]:=List.getElem?_eq_getElem (by omega);have:=h.num i _ hb;have h2:=(h.ch i _ a hb ha).2.2.1;omega
theorem Log.last {L:List R}(h:Log L){r:R}(hr:L.getLast? =some r):r.good∧r.u32∧r.s=L.length:=by
 have hn:L≠ []:=fun e=>by rw[e]at hr;simp at hr
 have hp:=List.length_pos_iff.2 hn;have hm:r∈L:=List.mem_of_getLast? hr;rw[List.getLast?_eq_getElem?]at hr;have:=h.num _ _ hr;exact⟨h.g r hm,h.u r hm,by omega⟩
def lZu (size:Nat)(L:List R):Nat→List UInt8:=L.foldl (fun f r=>fun j=>if j=(r.s-1)%8 then r.form size else f j) (fun _=>List.replicate size 0)
theorem iZB (size:Nat)(L:List R)(r:R)(j:Nat):lZu size (L++[r]) j=if j=(r.s-1)%8 then r.form size else lZu size L j:=by
 unfold lZu;rw[List.foldl_append];rfl
def Ring (size:Nat)(L:List R)(c:Cn):Prop:=∀ i,i<8→c ((1+i:Nat):Int)=lZu size L i
theorem sZg (c:Cn)(k:Nat)(a b:List UInt8):bZn (bZn c k a) k b=bZn c k b:=funext fun i=>by
 unfold bZn;split<;>rfl
theorem vZf (c:Cn)(k:Nat):bZn c k (c k)=c:=funext fun i=>by
 unfold bZn;split
 ·rename_i h;rw[h]
 ·rfl
theorem jZT (c:Cn)(k:Nat)(b:List UInt8):bZn c k b k=b:=if_pos rfl
theorem iZj (c:Cn){k:Nat}(b:List UInt8){i:Int}(h:i≠k):bZn c k b i=c i:=if_neg h
theorem Ring.upd {size:Nat}{L:List R}{c:Cn}(h:Ring size L c)(r:R):Ring size (L++[r]) (bZn c (aZN 1 8 r.s) (r.form size)):=fun i hi=>by
 rw[iZB];unfold aZN;by_cases e:i=(r.s-1)%8
 ·rw[if_pos e,e,jZT]
 ·rw[if_neg e,iZj _ _ (by omega)];exact h i hi
theorem qZl {size:Nat}(hs:secB (size:Int)=true):(aZW (List.replicate size 0)).2≠0:=by
 unfold Rec.aZW;rw[List.length_replicate,if_pos hs,if_neg]
 ·decide
 ·intro h;have:Zs (List.replicate size 0) 0=0:=by
   unfold Zs;rw[List.drop_zero,List.take_replicate,Sup.kZu]
  rw[this]at h;exact absurd h.1 (by decide)
theorem Ring.last {size:Nat}(hsec:secB (size:Int)=true):∀(n:Nat) {L:List R} {c:Cn},L.length=n→Log L→Ring size L c→lastC c 1 8=L.getLast?
 |0,L,c,hl,h,hr=>by
  have e:L=[]:=List.length_eq_zero_iff.1 hl;subst e;refine(iZ6 _).2 ?_;refine List.eq_nil_iff_forall_not_mem.2 fun x hx=>?_
  obtain⟨j,_,h2,h3⟩:=(hZi c 1 8 x 8 0).1 hx;rw[hr j (by omega),jZq]at h3;exact qZl hsec h3.1
 |n+1,L,c,hl,h,hr=>by
  have hn:L≠ []:=fun e=>by rw[e]at hl;simp at hl
  obtain⟨L',r,rfl⟩:∃ L' r,L=L'++[r]:=⟨L.dropLast,L.getLast hn,(List.dropLast_concat_getLast hn).symm⟩;obtain⟨h1,h2,h3,h4⟩:=h.init;have hsl:=hZB (f:=1) (n:=8) (s:=r.s) (by omega);have hk:aZN 1 8 r.s=1+(r.s-1)%8:=rfl;have hm:=Nat.mod_lt (r.s-1) (show 8>0 by omega)
  let c':Cn:=bZn c (aZN 1 8 r.s) (lZu size L' ((r.s-1)%8))
  have hr':Ring size L' c':=fun i hi=>by
   have:=hr i hi;rw[iZB]at this;show bZn c (aZN 1 8 r.s) _ _=_
   by_cases e:i=(r.s-1)%8
   ·subst e;rw[← hk,jZT]
   ·rw[iZj _ _ (by omega),this,if_neg e]
  have ih:=Ring.last hsec n (by simpa using hl) h1 hr';have hsz:=uZ4 hsec;have hup:=sZ2 (c:=c') (f:=1) (n:=8) (size:=size) (by omega) (by omega) hsec h2 h3 (by rw[ih];exact h4);have e:bZn c' (aZN 1 8 r.s) (r.form size)=c:=by
   show bZn (bZn c _ _) _ _=c
   rw[sZg];have:=hr ((r.s-1)%8) hm;rw[iZB,if_pos rfl,←hk]at this;rw[← this,vZf]
  rw[e]at hup;rw[hup,List.getLast?_append];rfl
def cw (c:Cn)(per f i:Nat):UInt64:=((aZA (c ((f+i/per:Nat):Int)))[i%per]?).getD 0
def cws (c:Cn)(per f n:Nat):List UInt64:=(List.range n).map (cw c per f)
theorem wZy {d:D}{c:Cn}(h:∀ i,d.now i=c i)(x:X)(i:Nat):pw d x i=cw c (D.per d) x.f i:=by unfold pw cw;rw[h]
theorem iZe {d:D}{c:Cn}(h:∀ i,d.now i=c i)(x:X)(n:Nat):pws d x 0 n=cws c (D.per d) x.f n:=by
 unfold pws cws;apply List.map_congr_left;intro i _;rw[Nat.zero_add,wZy h]
theorem lZQ {c c':Cn}{per f n s:Nat}(hp:1≤per)(hn:n≤s*per)(h:∀ i:Nat,i<s→c' ((f+i:Nat):Int)=c ((f+i:Nat):Int)):cws c' per f n=cws c per f n:=by
 unfold cws;apply List.map_congr_left;intro i hi;have hi:=List.mem_range.1 hi;have:i/per<s:=Nat.div_lt_of_lt_mul (by rw[Nat.mul_comm];omega);unfold cw;rw[h _ this]
def eZX (l:List UInt64):Nat:=(Go.Crc.sum (form l)).toNat
theorem pZc (l:List UInt64):eZX l<4294967296:=(Go.Crc.sum (form l)).isLt
structure Mn where
 most:Nat
 arena:Nat
 L:List R
 inp:List UInt64
def exX (most per i k:Nat):X:=⟨9+i*Lay.ZI most per,Lay.ZI k per,2^k⟩
def fZX (r:R):Bool:=decide (r.dir=1)
def bZt (m:Mn)(per:Nat)(r:R):List Pz:=aZD (fZX r) r.kk.toNat per m.arena
structure kZN (m:Mn)(per:Nat)(c:Cn)(r:R):Prop where
 len:m.inp.length=2^r.kk.toNat
 can:∀ w∈m.inp,w.toNat<18446744069414584321
 sum:r.inp=eZX m.inp
 ws:cws c per 9 (2^r.kk.toNat)=m.inp
structure kZQ (m:Mn)(per:Nat)(c:Cn)(r:R):Prop where
 ps:r.ps.toNat≤(bZt m per r).length
 ws:∀ p,(bZt m per r)[r.ps.toNat-1]? =some p→cws c per (9+p.o*Lay.ZI m.most per) (2^r.kk.toNat)=apL ((bZt m per r).take r.ps.toNat) m.inp
 sum:r.out=eZX (apL ((bZt m per r).take r.ps.toNat) m.inp)
structure Holds (sec size:Nat)(m:Mn)(c:Cn):Prop where
 sup:c 0=Sup.bZQ m.most sec size m.arena
 good:Sup.aZX m.most sec size m.arena=true
 least:aZ1 m.most (size/8)≤m.arena
 log:Log m.L
 ring:Ring size m.L c
 kk:∀ r,m.L.getLast? =some r→r.kk≤m.most
 inp:∀ r,m.L.getLast? =some r→2≤r.kd→kZN m (size/8) c r
 out:∀ r,m.L.getLast? =some r→r.kd=4→kZQ m (size/8) c r
def lZI (size:Nat)(c:Cn):Prop:=c 0=List.replicate size 0
def wZG (sec size:Nat):Option Mn→Cn→Prop
 |none,c=>lZI size c
 |some m,c=>Holds sec size m c
end Go.Proofs.YtgfildcgihbdaaaGreatDoor.Eng
namespace Go.Proofs.YtgfildcgihbdaaaGreatDoor.Eng
open Go Go.Hw Go.Form Dsk Str Rec Srt Rng Pln Trn
theorem jZQ {k p:Nat}(hp:1≤p):2^k≤Lay.ZI k p*p:=by
 have h1:=Nat.two_pow_pos k;have h2:=Nat.div_add_mod (2^k-1) p;have h3:=Nat.mod_lt (2^k-1) (show p>0 by omega);unfold Lay.ZI;rw[Nat.add_mul,Nat.mul_comm,Nat.one_mul];omega
theorem hZR {k m p:Nat}(h:k≤m):Lay.ZI k p≤Lay.ZI m p:=by
 have h1:2^k≤2^m:=Nat.pow_le_pow_right (by omega) h;unfold Lay.ZI;have:=Nat.div_le_div_right (c:=p) (show 2^k-1≤2^m-1 by omega);omega
theorem dZU {s:Nat}(h:0<Lay.ZP s):Lay.ZP s=s/8∧4≤s/8∧s/8≤512∧8*(s/8)=s:=by
 have:s=32∨s=64∨s=128∨s=256∨s=512∨s=1024∨s=2048∨s=4096:=by
  unfold Lay.ZP at h
  repeat' split at h
  all_goals omega
 rcases this with e|e|e|e|e|e|e|e<;>subst e<;>decide
theorem dZe {m sec s:Nat}{ar:Int}(h:Sup.aZX (m:Int) sec s ar=true):m≤32∧0<Lay.ZP s∧Lay.cZa m (s/8)≤sec∧1≤ar∧ar≤16777216:=by
 have h1:=of_decide_eq_true h;have h3:=h1.2.2.1;have h2:=dZU h3;rw[h2.1,Int.toNat_natCast]at h1;exact⟨by omega,h3,by omega,h1.2.2.2.2⟩
theorem pZe {c c':Cn}{per most i k:Nat}(hp:1≤per)(h:∀ j:Nat,j<Lay.ZI k per→c' ((9+i*Lay.ZI most per+j:Nat):Int)=c ((9+i*Lay.ZI most per+j:Nat):Int)):
  cws c' per (9+i*Lay.ZI most per) (2^k)=cws c per (9+i*Lay.ZI most per) (2^k):=lZQ hp (jZQ hp) h
theorem Holds.per {sec size:Nat}{m:Mn}{c:Cn}(h:Holds sec size m c):4≤size/8∧size/8≤512∧8*(size/8)=size:=(dZU (dZe h.good).2.1).2
theorem Holds.sam {sec size:Nat}{m:Mn}{c c':Cn}(h:Holds sec size m c)(h0:∀ i:Nat,i≤8→c' (i:Int)=c (i:Int))
  (h1:∀ r,m.L.getLast? =some r→2≤r.kd→∀ j:Nat,j<Lay.ZI r.kk.toNat (size/8)→c' ((9+j:Nat):Int)=c ((9+j:Nat):Int))
  (h2:∀ r,m.L.getLast? =some r→r.kd=4→∀ p,(bZt m (size/8) r)[r.ps.toNat-1]? =some p→∀ j:Nat,j<Lay.ZI r.kk.toNat (size/8)→c' ((9+p.o*Lay.ZI m.most (size/8)+j:Nat):Int)=c ((9+p.o*Lay.ZI m.most (size/8)+j:Nat):Int)):Holds sec size m c':=by
 have hp:=h.per;refine⟨(h0 0 (by omega)).trans h.sup,h.good,h.least,h.log,fun i hi=>(h0 (1+i) (by omega)).trans (h.ring i hi),h.kk,fun r hr hk=>?_,fun r hr hk=>?_⟩
 ·have q:=h.inp r hr hk;refine⟨q.len,q.can,q.sum,?_⟩;rw[lZQ (f:=9) (by omega) (jZQ (show 1≤size/8 by omega)) (h1 r hr hk)];exact q.ws
 ·have q:=h.out r hr hk;refine⟨q.ps,fun p hp'=>?_,q.sum⟩;rw[pZe (by omega) (h2 r hr hk p hp')];exact q.ws p hp'
theorem pZG {c:Cn}{s:Nat}{b:List UInt8}{j:Nat}(hj:9≤j):bZn c (aZN 1 8 s) b (j:Int)=c (j:Int):=by
 have:=hZB (f:=1) (n:=8) (s:=s) (by omega);exact iZj _ _ (by omega)
theorem kZN.upd {m:Mn}{per:Nat}{c:Cn}{r:R}(h:kZN m per c r)(hp:1≤per)(s:Nat)(b:List UInt8):kZN m per (bZn c (aZN 1 8 s) b) r:=
 ⟨h.len,h.can,h.sum,by rw[lZQ (f:=9) hp (jZQ hp) (fun j _=>pZG (by omega))];exact h.ws⟩
theorem kZQ.upd {m:Mn}{per:Nat}{c:Cn}{r:R}(h:kZQ m per c r)(hp:1≤per)(s:Nat)(b:List UInt8):kZQ m per (bZn c (aZN 1 8 s) b) r:=
 ⟨h.ps,fun p hp'=>by rw[pZe hp (fun j _=>pZG (by omega))];exact h.ws p hp',h.sum⟩
theorem Holds.app {sec size:Nat}{m:Mn}{c:Cn}(h:Holds sec size m c){r:R}(hg:r.good)(hu:r.u32)(hm:cZy m.L.getLast? r=true)(hkk:r.kk≤m.most)
  (hi:2≤r.kd→kZN m (size/8) c r) (ho:r.kd=4→kZQ m (size/8) c r):Holds sec size { m with L:=m.L++[r]} (bZn c (aZN 1 8 r.s) (r.form size)):=by
 have hp:=h.per;have hsl:=hZB (f:=1) (n:=8) (s:=r.s) (by omega);have hl:∀ x,(m.L++[r]).getLast? =some x→x=r:=fun x hx=>by
  rw[List.getLast?_append]at hx;have:r=x:=by simpa using hx
  exact this.symm
 refine⟨?_,h.good,h.least,h.log.snoc hg hu hm,h.ring.upd r,fun x hx=>?_,fun x hx hk=>?_,fun x hx hk=>?_⟩
 ·rw[iZj _ _ (by omega)];exact h.sup
 ·rw[hl x hx];exact hkk
 ·obtain rfl:=hl x hx;have q:=(hi hk).upd (show 1≤size/8 by omega) x.s (x.form size);exact⟨q.len,q.can,q.sum,q.ws⟩
 ·obtain rfl:=hl x hx;have q:=(ho hk).upd (show 1≤size/8 by omega) x.s (x.form size);exact⟨q.ps,q.ws,q.sum⟩
theorem Holds.target {sec size:Nat}{m:Mn}{c c':Cn}(h:Holds sec size m c){t k:Nat}(hk:k≤m.most)(ht:∀ r,m.L.getLast? =some r→2≤r.kd→t≠0)
  (ho:∀ r,m.L.getLast? =some r→r.kd=4→∀ p,(bZt m (size/8) r)[r.ps.toNat-1]? =some p→t≠p.o) (hs:Sam (inX (exX m.most (size/8) t k)) c c'):Holds sec size m c':=by
 have hp:=h.per;have hrk:Lay.ZI k (size/8)≤Lay.ZI m.most (size/8):=hZR hk;generalize hR:Lay.ZI m.most (size/8)=Rm at hrk;have ext:∀(i j:Nat) (r:R),m.L.getLast? =some r→i≠t→j<Lay.ZI r.kk.toNat (size/8)→c' ((9+i*Rm+j:Nat):Int)=c ((9+i*Rm+j:Nat):Int):=fun i j r hr hit hj=>by
  have h1:=h.kk r hr;have h2:=(h.log.last hr).1;have hkr:Lay.ZI r.kk.toNat (size/8)≤Rm:=by rw[← hR];exact hZR (by omega)
  apply hs;unfold inX exX;simp only[hR];rintro⟨a,b⟩;rcases Nat.lt_or_gt_of_ne hit with hlt|hlt
  ·have:(i+1)*Rm≤t*Rm:=Nat.mul_le_mul_right _ hlt;rw[Nat.succ_mul]at this;omega
  ·have:(t+1)*Rm≤i*Rm:=Nat.mul_le_mul_right _ hlt;rw[Nat.succ_mul]at this;omega
 refine h.sam (fun i hi=>hs _ ?_) (fun r hr hkd j hj=>?_) fun r hr hkd p hp' j hj=>?_
 ·unfold inX exX;rintro⟨a,b⟩;have:(0:Int)≤(t*Lay.ZI m.most (size/8):Nat):=Int.natCast_nonneg _;simp only at a;omega
 ·have:=ext 0 j r hr (fun e=>ht r hr hkd e.symm) hj;rw[Nat.zero_mul,Nat.add_zero]at this;exact this
 ·rw[hR];exact ext p.o j r hr (fun e=>ho r hr hkd p hp' e.symm) hj
end Go.Proofs.YtgfildcgihbdaaaGreatDoor.Eng
namespace Go.Proofs.YtgfildcgihbdaaaGreatDoor.Eng
open Go Go.Hw Go.Form Dsk Str Rec Srt Rng Pln Trn
def Mn.r (m:Mn):R:=m.L.getLast?.getD aZ9
theorem Mn.r_some {m:Mn}{r:R}(h:m.L.getLast? =some r):m.r=r:=by unfold Mn.r;rw[h];rfl
theorem Mn.r_or (m:Mn):(m.L=[]∧m.r=aZ9)∨m.L.getLast? =some m.r:=by
 cases h:m.L.getLast? with
 |none=>exact .inl ⟨List.getLast?_eq_none_iff.1 h,by unfold Mn.r;rw[h];rfl⟩
 |some r=>exact .inr (by rw[Mn.r_some h])
theorem Mn.r_kd {m:Mn}(h:m.r.kd≠0):m.L.getLast? =some m.r:=by
 rcases m.r_or with⟨_,e⟩|e
 ·rw[e]at h;exact absurd rfl h
 ·exact e
def Mn.add (m:Mn)(r:R):Mn:={ m with L:=m.L++[r]}
theorem Mn.add_r (m:Mn)(r:R):(m.add r).r=r:=by unfold Mn.r Mn.add;simp
theorem Mn.add_last (m:Mn)(r:R):(m.add r).L.getLast? =some r:=by unfold Mn.add;simp
structure Small (B:Nat)(m:Mn):Prop where
 len:m.L.length≤B
 ld:m.r.ld≤B
theorem Small.add {B:Nat}{m:Mn}(h:Small B m){r:R}(hr:r.ld≤B+1):Small (B+1) (m.add r):=⟨by unfold Mn.add;have:=h.len;simp;omega,by rw[Mn.add_r];exact hr⟩
def Mn.seq (m:Mn):Nat:=m.L.length+1
theorem Mn.seq_r {sec size:Nat}{m:Mn}{c:Cn}(h:Holds sec size m c):m.r.s+1=m.seq:=by
 rcases m.r_or with⟨e1,e2⟩|e
 ·rw[e2];unfold Mn.seq;rw[e1];rfl
 ·have:=(h.log.last e).2.2;unfold Mn.seq;omega
def cZl (m:Mn)(k:Nat):R:=⟨m.seq,1,k,0,0,m.r.ld+1,0,0⟩
def dZc (m:Mn)(k:Nat)(l:List UInt64):R:=⟨m.seq,2,k,0,0,m.r.ld,eZX l,0⟩
def cZW (m:Mn)(d:Bool):R:=⟨m.seq,3,m.r.kk,if d=true then 1 else 0,0,m.r.ld,m.r.inp,0⟩
def bZm (m:Mn)(per:Nat):R:=⟨m.seq,4,m.r.kk,m.r.dir,m.r.ps+1,m.r.ld,m.r.inp,eZX (apL ((bZt m per m.r).take (m.r.ps.toNat+1)) m.inp)⟩
section
variable {sec size : Nat} {m : Mn} {c : Cn} (h : Holds sec size m c) {B : Nat} (hs : Small B m) (hB : B ≤ 1000000)
include h hs hB
theorem vZj {k:Nat}(hk:k≤m.most):(cZl m k).good∧(cZl m k).u32∧cZy m.L.getLast? (cZl m k)=true∧Holds sec size (m.add (cZl m k)) (bZn c (aZN 1 8 m.seq) ((cZl m k).form size)):=by
 have hg:=dZe h.good;have hl:=hs.len;have hd:=hs.ld;have hsq:m.seq=m.L.length+1:=rfl;have g:(cZl m k).good:=⟨by show 1≤m.seq;omega,by show m.seq<_;omega,by show(0:Int)≤k;omega,by show(k:Int)≤32;omega,.inl rfl,.inl ⟨rfl,rfl,rfl,rfl,rfl⟩⟩;have u:(cZl m k).u32:=⟨by show m.r.ld+1<_;omega,by show 0<_;omega,by show 0<_;omega⟩;have may:cZy m.L.getLast? (cZl m k)=true:=by
  have hsr:=Mn.seq_r h;rcases m.r_or with⟨e1,e2⟩|e
  ·rw[e1];exact decide_eq_true ⟨by show m.seq=1;rw[hsq,e1];rfl,rfl⟩
  ·rw[e];exact decide_eq_true ⟨(h.log.last e).1,g,by show m.seq=_;omega,.inl rfl⟩
 exact⟨g,u,may,h.app g u may (by show(k:Int)≤m.most;omega) (fun h2=>absurd h2 (show ¬(2:Int)≤1 by omega)) (fun h4=>absurd h4 (show ¬(1:Int)=4 by omega))⟩
theorem uZK {k:Nat}(hk:m.r.kd=1)(hkk:m.r.kk=k){l:List UInt64}(hl:l.length=2^k)(hcan:∀ w∈l,w.toNat<18446744069414584321)(hw:cws c (size/8) 9 (2^k)=l):
  (dZc m k l).good∧(dZc m k l).u32∧cZy m.L.getLast? (dZc m k l)=true∧Holds sec size ({ m with inp:=l}.add (dZc m k l)) (bZn c (aZN 1 8 m.seq) ((dZc m k l).form size)):=by
 have hg:=dZe h.good;have hlen:=hs.len;have hd:=hs.ld;have hsq:m.seq=m.L.length+1:=rfl;have e:=Mn.r_kd (m:=m) (by omega);have hkm:=h.kk _ e;have hm:Holds sec size { m with inp:=l} c:=⟨h.sup,h.good,h.least,h.log,h.ring,h.kk,fun r hr h2=>by
  have e1:m.L.getLast? =some r:=hr;rw[e]at e1;cases e1;omega,fun r hr h4=>by
  have e1:m.L.getLast? =some r:=hr;rw[e]at e1;cases e1;omega⟩
 have g:(dZc m k l).good:=⟨by show 1≤m.seq;omega,by show m.seq<_;omega,by show(0:Int)≤k;omega,by show(k:Int)≤32;omega,.inl rfl,.inr (.inl ⟨rfl,rfl,rfl,rfl⟩)⟩;have u:(dZc m k l).u32:=⟨by show m.r.ld<_;omega,pZc l,by show 0<_;omega⟩;have may:cZy m.L.getLast? (dZc m k l)=true:=by
  have hsr:=Mn.seq_r h;rw[e];exact decide_eq_true ⟨(h.log.last e).1,g,by show m.seq=_;omega,.inr (.inl ⟨rfl,hk,rfl,hkk⟩)⟩
 exact⟨g,u,may,hm.app g u may (by show(k:Int)≤m.most;omega) (fun _=>⟨by show l.length=2^((k:Int).toNat);rw[Int.toNat_natCast];exact hl,hcan,rfl,by show cws c _ 9 (2^((k:Int).toNat))=l;rw[Int.toNat_natCast];exact hw⟩) (fun h4=>absurd h4 (show ¬(2:Int)=4 by omega))⟩
theorem vZb (hk:2≤m.r.kd)(d:Bool):(cZW m d).good∧(cZW m d).u32∧cZy m.L.getLast? (cZW m d)=true∧Holds sec size (m.add (cZW m d)) (bZn c (aZN 1 8 m.seq) ((cZW m d).form size)):=by
 have hg:=dZe h.good;have hlen:=hs.len;have hd:=hs.ld;have hsq:m.seq=m.L.length+1:=rfl;have e:=Mn.r_kd (m:=m) (by omega);have hkm:=h.kk _ e;have hr:=h.log.last e;have hi:=h.inp _ e hk;have g:(cZW m d).good:=⟨by show 1≤m.seq;omega,by show m.seq<_;omega,hr.1.2.2.1,hr.1.2.2.2.1,by show(if d=true then(1:Int)else 0)=0∨(if d=true then(1:Int)else 0)=1;cases d<;>simp,.inr (.inr (.inl ⟨rfl,rfl⟩))⟩;have u:(cZW m d).u32:=⟨by show m.r.ld<_;omega,hr.2.1.inp,by show 0<_;omega⟩;have may:cZy m.L.getLast? (cZW m d)=true:=by
  have hsr:=Mn.seq_r h;rw[e];exact decide_eq_true ⟨hr.1,g,by show m.seq=_;omega,.inr (.inr (.inl ⟨rfl,by omega,rfl,rfl,rfl,rfl⟩))⟩
 exact⟨g,u,may,h.app g u may hkm (fun _=>⟨hi.len,hi.can,hi.sum,hi.ws⟩) (fun h4=>absurd h4 (show ¬(3:Int)=4 by omega))⟩
end
theorem dZV (d:Bool)(k per words:Nat):1≤(aZD d k per words).length∧(aZD d k per words).length≤5:=by
 unfold aZD jZI;split<;>simp
theorem lZq (d:Bool)(k per words:Nat):∀ i p,(aZD d k per words)[i]? =some p→(1≤p.o∧p.o≤3∧p.o≠p.f)∧(i=0→p.f=0)∧∀ q,(aZD d k per words)[i-1]? =some q→1≤i→p.f=q.o:=by
 intro i p hp;unfold aZD at hp⊢;split at hp
 ·rename_i hb
  rw[if_pos hb];rcases i with _|i
  ·cases hp;exact⟨⟨by show 1≤3;omega,by show 3≤3;omega,by show(3:Nat)≠0;omega⟩,fun _=>rfl,fun q _ h=>by omega⟩
  ·simp at hp
 ·rename_i hb
  rw[if_neg hb];unfold jZI at hp⊢;rcases i with _|_|_|_|_|i
  all_goals first|(cases hp;exact⟨⟨by simp,by simp,by simp⟩,fun h=>by first|rfl|omega,fun q hq h=>by first|omega|(cases hq;rfl)⟩)|simp at hp
theorem R.ps_nn {r:R}(h:r.good):0≤r.ps:=by
 obtain⟨_,_,_,_,_,h|h|h|h⟩:=h<;>omega
section
variable {sec size : Nat} {m : Mn} {c : Cn} (h : Holds sec size m c) {B : Nat} (hs : Small B m) (hB : B ≤ 1000000)
include h hs hB
theorem uZT (hk:3≤m.r.kd){p:Pz}(hp:(bZt m (size/8) m.r)[m.r.ps.toNat]? =some p)(hw:cws c (size/8) (9+p.o*Lay.ZI m.most (size/8)) (2^m.r.kk.toNat)=apL ((bZt m (size/8) m.r).take (m.r.ps.toNat+1)) m.inp):
  (bZm m (size/8)).good∧(bZm m (size/8)).u32∧cZy m.L.getLast? (bZm m (size/8))=true∧Holds sec size (m.add (bZm m (size/8))) (bZn c (aZN 1 8 m.seq) ((bZm m (size/8)).form size)):=by
 have hg:=dZe h.good;have hlen:=hs.len;have hd:=hs.ld;have hsq:m.seq=m.L.length+1:=rfl;have e:=Mn.r_kd (m:=m) (by omega);have hkm:=h.kk _ e;have hr:=h.log.last e;have hi:=h.inp _ e (by omega);have hps:=R.ps_nn hr.1;have hlt:=(List.getElem?_eq_some_iff.1 hp).1;have hl5:=(dZV (fZX m.r) m.r.kk.toNat (size/8) m.arena).2;have hl5:(bZt m (size/8) m.r).length≤5:=hl5;have g:(bZm m (size/8)).good:=⟨by show 1≤m.seq;omega,by show m.seq<_;omega,hr.1.2.2.1,hr.1.2.2.2.1,hr.1.2.2.2.2.1,.inr (.inr (.inr ⟨rfl,by show 1≤m.r.ps+1;omega,by show m.r.ps+1≤7;omega⟩))⟩;have u:(bZm m (size/8)).u32:=⟨by show m.r.ld<_;omega,hr.2.1.inp,pZc _⟩;have may:cZy m.L.getLast? (bZm m (size/8))=true:=by
  have hsr:=Mn.seq_r h;rw[e];exact decide_eq_true ⟨hr.1,g,by show m.seq=_;omega,.inr (.inr (.inr ⟨rfl,hk,rfl,rfl,rfl,rfl,rfl⟩))⟩
 have ept:(bZm m (size/8)).ps.toNat=m.r.ps.toNat+1:=by show(m.r.ps+1).toNat=_;omega
 have epl:bZt m (size/8) (bZm m (size/8))=bZt m (size/8) m.r:=rfl;refine⟨g,u,may,h.app g u may hkm (fun _=>⟨hi.len,hi.can,hi.sum,hi.ws⟩) fun _=>⟨?_,fun q hq=>?_,?_⟩⟩
 ·rw[ept,epl];omega
 ·rw[ept,epl,Nat.add_sub_cancel,hp]at hq;cases hq;rw[ept,epl];exact hw
 ·rw[ept,epl];rfl
theorem wZd (hk:3≤m.r.kd){p:Pz}(hp:(bZt m (size/8) m.r)[m.r.ps.toNat]? =some p):
  cws c (size/8) (9+p.f*Lay.ZI m.most (size/8)) (2^m.r.kk.toNat)=apL ((bZt m (size/8) m.r).take m.r.ps.toNat) m.inp∧(if m.r.ps=0 then m.r.inp else m.r.out)=eZX (apL ((bZt m (size/8) m.r).take m.r.ps.toNat) m.inp)∧
  (∀ q,m.r.kd=4→(bZt m (size/8) m.r)[m.r.ps.toNat-1]? =some q→p.o≠q.o):=by
 have e:=Mn.r_kd (m:=m) (by omega);have hr:=h.log.last e;have hi:=h.inp _ e (by omega);have ends:=lZq (fZX m.r) m.r.kk.toNat (size/8) m.arena _ p hp;have hps:=R.ps_nn hr.1;have h4:m.r.kd=3∧m.r.ps=0∨m.r.kd=4∧1≤m.r.ps:=by
  obtain⟨_,_,_,_,_,h|h|h|h⟩:=hr.1<;>omega
 rcases h4 with⟨k3,p0⟩|⟨k4,p1⟩
 ·have:m.r.ps.toNat=0:=by omega
  rw[this]at ends hp⊢;rw[ends.2.1 rfl,Nat.zero_mul,Nat.add_zero,if_pos p0];refine⟨hi.ws,hi.sum,fun q hq=>by omega⟩
 ·have ho:=h.out _ e k4;have hlt:=(List.getElem?_eq_some_iff.1 hp).1;have hq:(bZt m (size/8) m.r)[m.r.ps.toNat-1]? =some (bZt m (size/8) m.r)[m.r.ps.toNat-1]:=List.getElem?_eq_getElem (by omega);have hf:=ends.2.2 _ hq (by omega);rw[if_neg (by omega),hf];refine⟨ho.ws _ hq,ho.sum,fun q _ hq'=>?_⟩;rw[hq]at hq';cases hq';rw[← hf];exact ends.1.2.2
end
end Go.Proofs.YtgfildcgihbdaaaGreatDoor.Eng
namespace Go.Proofs.YtgfildcgihbdaaaGreatDoor.Str
open Go Go.Hw Go.Form W Dsk Are
section
variable {p q dp ap bp bq bt b rb mb : Nat} {d : D} {x y : X} {cap peak : Int} {bufs : List (Nat × Nat × Option Addr)} {ws : List UInt64}
end
end Go.Proofs.YtgfildcgihbdaaaGreatDoor.Str
namespace Go.Proofs.YtgfildcgihbdaaaGreatDoor.Str
open Go Go.Hw Go.Form W Dsk Are
structure tZL (d d':D)(x y:X)(i k:Nat):Prop where
 ok:Ok d'
 calm:Calm d'
 size:d'.size=d.size
 sec:d'.sec=d.sec
 rd:d'.rd≤d.rd+1000*i
 wr:d'.wr≤d.wr+1000*i
 src:∀ j,j<x.w→pw d' x j=pw d x j
 dst:∀ j,j<k→pw d' y j=pw d x j
theorem tZL.per {d d':D}{x y:X}{i k:Nat}(h:tZL d d' x y i k):D.per d'=D.per d:=by unfold D.per;rw[h.size]
theorem kZL {P:Program}{g:FuncId}{t:TypeId}{k:IntKind}{n:Int}{K:Value→Prop}(h:bZl P g=[t])(hu:P.underlying t=some (.int k))(hk:K (.int k n)):DR P (bZl P g) (.int k n) K:=by
 rw[h];show DT P t _ K
 unfold DT;rw[hu];simpa using hk
section
variable {p q dp ap bp bq bt b rb mb vb : Nat} {d : D} {x y : X} {cap peak P1 : Int} {bufs : List (Nat × Nat × Option Addr)}
theorem uZN {per left:Nat}{l:Int}(h:l=left):(if(per:Int)<l then(per:Int)else l)=((if per<left then per else left:Nat):Int):=by
 subst h;by_cases c:per<left
 ·rw[if_pos c,if_pos (by omega)]
 ·rw[if_neg c,if_neg (by omega)]
end
end Go.Proofs.YtgfildcgihbdaaaGreatDoor.Str
namespace Go.Proofs.YtgfildcgihbdaaaGreatDoor.Str
open Go Go.Hw Go.Form W Dsk Are
section
variable {p q dp ap : Nat} {d : D} {x y : X} {cap peak : Int} {bufs : List (Nat × Nat × Option Addr)}
end
end Go.Proofs.YtgfildcgihbdaaaGreatDoor.Str
namespace Go.Proofs.YtgfildcgihbdaaaGreatDoor.Str
open Go Go.Hw Go.Form W Dsk Are
theorem wZI (a b c d e:Value):((#[]++ #[a,b,c])++ #[d,e]:Array Value)=#[a,b,c,d,e]:=rfl
section
variable {p dp ap bp : Nat} {d : D} {x : X} {cap peak : Int} {bufs : List (Nat × Nat × Option Addr)} {B : As}
def kZ3 (p dp ap bp b rb mb vb:Nat)(d:D)(x:X)(cap pk:Int)(bufs:List (Nat×Nat×OA))(per:Nat)(ws:List UInt64)(B:As):List As:=
 [pts p (ZH dp ap x),Dk dp d,Ar ap cap pk (bufs++[(b,per,some ⟨rb,0,none⟩)]),pts rb (.row (Zc ws) 82 mb),pts bp (.obj (.cells #[.pointer (some ⟨p,0,none⟩)] 153)),B,pts vb (.row [.pointer (some ⟨b,0,none⟩)] 195 1)]
theorem oZM (K:VK)(f:FuncId)(C:Array Value)(hok:Ok d)(hcap:(D.per d:Int)≤cap-ZD bufs){H:Hp}
  (hs:Sep [pts p (ZH dp ap x),Dk dp d,Ar ap cap peak bufs,pts bp (.obj (.cells #[.pointer (some ⟨p,0,none⟩)] 153)),B] H)
  (k:∀ b rb vb H,(∀ z∈bufs,z.1≠b)→Sep (kZ3 p dp ap bp b rb (D.per d) vb d x cap (mx peak (ZD bufs+D.per d)) bufs (D.per d) (List.replicate (D.per d) 0) B) H→
   ∃ t,ZG.l6 K t (some ⟨p,0,none⟩) f #[] C (some ⟨b,0,none⟩) 0 (x.w:Int) (x.f:Int) (some ⟨ap,0,none⟩) (some ⟨vb,0,none⟩) 1 1 H):
  Za Tryz.prog 121 #[.pointer (some ⟨p,0,none⟩),.func (.func f) #[] C] H K:=by
 have hp:=Ok.per_le hok;apply ZG.ok;unfold ZG;simp only[HS];have rest:∀(b rb:Nat) (H:Hp),(∀ y∈bufs,y.1≠b)→Sep [Ar ap cap (if ZD bufs+D.per d>peak then ZD bufs+D.per d else peak) (bufs++[(b,D.per d,some ⟨rb,0,none⟩)]),pts rb (.row (bZc (D.per d)) 82 (D.per d)),pts p (ZH dp ap x),Dk dp d,pts bp (.obj (.cells #[.pointer (some ⟨p,0,none⟩)] 153)),B] H→
   ZG.j2 K (some ⟨p,0,none⟩) f #[] C (some ⟨b,0,none⟩) 0 H:=fun b rb H hbm hs=>by
  unfold ZG.j2;refine Zq rfl ?_;simp only[HS];refine hs.ld 2 rfl rfl ?_;simp only[HV];refine hs.nw fun vb H hs=>?_
  refine ZM.use (hZl hs 2 rfl) ?_;simp only[HV];refine hs.ld 2 rfl rfl ?_;simp only[HV];have hz:bZc (D.per d)=Zc (List.replicate (D.per d) 0):=by
   unfold bZc;rw[bZA];unfold Zc;rw[List.map_replicate];rfl
  rw[hz]at hs;exact k b rb vb H hbm (hs.re [2,3,0,1,4,5,6] rfl)
 have fresh:∀{L:List As} {H:Hp} (b rb:Nat) (pk:Int),Sep L H→L[0]? =some (Ar ap cap pk (bufs++[(b,D.per d,some ⟨rb,0,none⟩)]))→∀ y∈bufs,y.1≠b:=fun b rb pk hs h0 y hy e=>by
  obtain⟨mp,cl,tk,hA⟩:=Sep.ar hs 0 h0;have:=hA.bn;rw[List.map_append,List.nodup_append]at this;exact this.2.2 y.1 (List.mem_map_of_mem hy) b (by simp) e
 refine⟨?_,?_⟩
 ·refine hs.ld 0 rfl rfl ?_;simp only[HV];refine Za.use (eZO hs 0 1 rfl rfl hok) ?_
  try simp only[HV]
  refine(eZC (a:=ap) (cap:=cap) (peak:=peak) (bufs:=bufs) (n:=D.per d) (by omega) hcap).use hs [2] rfl rfl ?_;rintro _ _ H ⟨b,rb,rfl,rfl⟩ hs;simp only[HV];exact rest b rb H (fresh b rb _ hs rfl) hs
 ·refine Za.use (eZO hs 0 1 rfl rfl hok) ?_
  try simp only[HV]
  refine hs.ld 0 rfl rfl ?_;simp only[HV];refine(eZC (a:=ap) (cap:=cap) (peak:=peak) (bufs:=bufs) (n:=D.per d) (by omega) hcap).use hs [2] rfl rfl ?_;rintro _ _ H ⟨b,rb,rfl,rfl⟩ hs;simp only[HV];exact rest b rb H (fresh b rb _ hs rfl) hs
end
section
variable {p dp ap bp bw b rb mb : Nat} {d : D} {x : X} {cap peak : Int} {bufs : List (Nat × Nat × Option Addr)}
end
end Go.Proofs.YtgfildcgihbdaaaGreatDoor.Str
namespace Go.Proofs.YtgfildcgihbdaaaGreatDoor.Str
open Go Go.Hw Go.Form W Dsk Are
section
variable {p dp ap bp bw b rb mb vb : Nat} {d : D} {x : X} {cap peak pk : Int} {bufs : List (Nat × Nat × Option Addr)}
end
end Go.Proofs.YtgfildcgihbdaaaGreatDoor.Str
namespace Go.Proofs.YtgfildcgihbdaaaGreatDoor.Str
open Go Go.Hw Go.Form W Dsk Are
section
variable {p dp ap bp bc b rb mb vb : Nat} {d : D} {x : X} {cap peak pk : Int} {bufs : List (Nat × Nat × Option Addr)}
def ctr (bc:Nat)(ws:List UInt64):As:=pts bc (CrcP.counter (Go.Crc.sum (form ws)) (8*ws.length))
def tZy (bp bc:Nat):Array Value:=#[.pointer (some ⟨bp,0,none⟩),.pointer (some ⟨bc,0,none⟩)]
end
end Go.Proofs.YtgfildcgihbdaaaGreatDoor.Str
