import Derived.Test.YtgfildcgihbdaaaGreatDoorProg
import Derived.Shelf.SlIterI.Nil
import Derived.Shelf.SortM.Plain
import Derived.Shelf.SortM.SortNone
import Derived.Ground.GgzProg
import Derived.Ground.SlgmProg
import Derived.Shelf.Strconv.Itoa0
import Derived.Shelf.Strings.Trim
import Derived.Test.YtgfildcgihbdaaaGreatDoorPkWholeCost5
set_option maxRecDepth 100000
set_option linter.unusedVariables false
set_option linter.unusedSimpArgs false
set_option linter.unnecessarySimpa false
set_option linter.unusedSectionVars false
open Go.IntKind (i64 u32 u64)
namespace Go.Proofs.YtgfildcgihbdaaaGreatDoor.W
open Go Go.Hw
theorem dZF :Tryz.prog.follows .mixedOrders=true:=by kernel_rfl
def fZV (A1:OA)(n1 m1:Nat)(x1:Int)(H:Hp)(K:VK):Prop:=
 Hz 79 #[.int .i64 (n1:Int)] H fun v1 H1=>gZ6 v1 fun x2 c1=>(BIf (!c1) (K (.tuple #[.int .i64 0,.int .i64 0,.int .i64 4]) H1) (BIf (decide (x2>x1)) (K (.tuple #[.int .i64 0,.int .i64 0,.int .i64 14]) H1) (Hz 80 #[.slice A1 n1 m1] H1 fun v4 H2=>gZ6 v4 fun x3 c2=>(BIf (!c2) (K (.tuple #[.int .i64 0,.int .i64 x3,.int .i64 3]) H2) (K (.tuple #[.int .i64 x2,.int .i64 0,.int .i64 0]) H2)))))
theorem fZV.ok A1 n1 m1 x1 H K (h:fZV A1 n1 m1 x1 H K):Za Tryz.prog 52 #[.slice A1 n1 m1,.int .i64 x1] H K:=
 okN dZF Tryz.func52 rfl rfl h
def fZW (x1 x2:Int)(H:Hp)(K:VK):Prop:=
 HcB 100 #[.int .i64 x1,.int .i64 x2] H fun c1 H1=>BIf (!c1) (K (.tuple #[.int .i64 0,.int .i64 1]) H1) (HcI 101 #[.int .i64 x1,.int .i64 x2] H1 fun x3 H2=>K (.tuple #[.int .i64 x3,.int .i64 0]) H2)
theorem fZW.ok x1 x2 H K (h:fZW x1 x2 H K):Za Tryz.prog 71 #[.int .i64 x1,.int .i64 x2] H K:=
 okN dZF Tryz.func71 rfl rfl h
def fZs (x1 x2 x3 x4:Int)(H:Hp)(K:VK):Prop:=
 HcB 100 #[.int .i64 x1,.int .i64 x3] H fun c1 H1=>BIf (!c1) (K (.tuple #[.slice none 0 0,.int .i64 1]) H1) (BIf (decide (x2<0)) (K (.tuple #[.slice none 0 0,.int .i64 18]) H1) (BIf (decide (x2>1)) (K (.tuple #[.slice none 0 0,.int .i64 18]) H1) (HcI 101 #[.int .i64 x1,.int .i64 x3] H1 fun x5 H2=>BIf (decide (x4<x5)) (K (.tuple #[.slice none 0 0,.int .i64 6]) H2) (HcB 125 #[.int .i64 x1,.int .i64 x3,.int .i64 x4] H2 fun c2 H3=>BIf c2 (BIf (decide (x1≤(20:Int))) ((0≤(u64.wrap x1)∧HcW 127 #[.int .i64 x1,.int .i64 x2] H3 fun x6 H4=>HcA 126 #[.agg #[.int .i64 1,.int .i64 (aZE .i64 1 (u64.wrap x1))],.int .i64 0,.int .i64 3,.int .i64 x2,.int .i64 (-1),.int .u64 x6] H4 fun y1 H5=>dZ6 y1.toList fun x7 x8 x9 x10 x11 x12 x13 x14=>(Nw H5 (.row [.int .i64 x7,.int .i64 x8,.int .i64 x9,.int .i64 x10,.int .u64 x11,.int .i64 x12,.int .i64 x13,.int .i64 x14] 126 8) fun b1 H6=>K (.tuple #[.slice (some ⟨b1,0,none⟩) 1 1,.int .i64 0]) H6))) (HcS 128 #[.int .i64 x1,.int .i64 x2] H3 fun A1 n1 m1 H7=>K (.tuple #[.slice A1 n1 m1,.int .i64 0]) H7)) (HcS 128 #[.int .i64 x1,.int .i64 x2] H3 fun A2 n2 m2 H8=>K (.tuple #[.slice A2 n2 m2,.int .i64 0]) H8)))))
theorem fZs.ok x1 x2 x3 x4 H K (h:fZs x1 x2 x3 x4 H K):Za Tryz.prog 85 #[.int .i64 x1,.int .i64 x2,.int .i64 x3,.int .i64 x4] H K:=
 okN dZF Tryz.func85 rfl rfl h
def gZL (x1 x2:Int)(H:Hp)(K:VK):Prop:=
 BIf (decide (x1≥0)) (BIf (decide (x1≤(32:Int))) (BIf (decide (x2≥4)) (BIf (decide (x2≤(512:Int))) (K (.bool ((aZr .i64 x2 (i64.wrap (x2-1)))==0)) H) (K (.bool false) H)) (K (.bool false) H)) (K (.bool false) H)) (K (.bool false) H)
theorem gZL.ok x1 x2 H K (h:gZL x1 x2 H K):Za Tryz.prog 100 #[.int .i64 x1,.int .i64 x2] H K:=
 okN dZF Tryz.func100 rfl rfl h
def fZY (x1 x2:Int)(H:Hp)(K:VK):Prop:=
 ((2:Int)≠0∧i64=i64∧(0≤(u64.wrap (i64.wrap (Int.tdiv (i64.wrap (x1+1)) 2)))∧K (.int .i64 (i64.wrap ((aZE .i64 2 (u64.wrap (i64.wrap (Int.tdiv (i64.wrap (x1+1)) 2))))+x2))) H))
theorem fZY.ok x1 x2 H K (h:fZY x1 x2 H K):Za Tryz.prog 101 #[.int .i64 x1,.int .i64 x2] H K:=
 okN dZF Tryz.func101 rfl rfl h
def fZX (x1 x2 x3:Int)(H:Hp)(K:VK):Prop:=
 HcB 100 #[.int .i64 x1,.int .i64 x2] H fun c1 H1=>BIf c1 ((0≤(u64.wrap x1)∧K (.bool (decide ((i64.wrap ((aZE .i64 2 (u64.wrap x1))+x2))≤x3))) H1)) (K (.bool false) H1)
theorem fZX.ok x1 x2 x3 H K (h:fZX x1 x2 x3 H K):Za Tryz.prog 125 #[.int .i64 x1,.int .i64 x2,.int .i64 x3] H K:=
 okN dZF Tryz.func125 rfl rfl h
def fZt (x1 x2 x3 x4 x5 x6 x7:Int)(H:Hp)(K:VK):Prop:=
 Nw H (.obj (.cells #[.int .i64 x1,.int .i64 x2] 122)) fun b1 H1=>Nw H1 (.obj (.cells #[.int .i64 0,.int .i64 0,.int .i64 0,.int .i64 0,.int .u64 0,.int .i64 0,.int .i64 0,.int .i64 0] 126)) fun b2 H2=>LdA H2 ⟨b1,0,none⟩ 2 fun l1=>qZz l1.toArray.toList fun x8 x9=>(StA H2 ⟨b2,0,none⟩ #[.int .i64 x8,.int .i64 x9,.int .i64 x5,.int .i64 x6,.int .u64 x7,.int .i64 2,.int .i64 x3,.int .i64 x4] 8 fun H3=>LdA H3 ⟨b2,0,none⟩ 8 fun l4=>K (.agg l4.toArray) H3)
theorem fZt.ok x1 x2 x3 x4 x5 x6 x7 H K (h:fZt x1 x2 x3 x4 x5 x6 x7 H K):Za Tryz.prog 126 #[.agg #[.int .i64 x1,.int .i64 x2],.int .i64 x3,.int .i64 x4,.int .i64 x5,.int .i64 x6,.int .u64 x7] H K:=
 okN dZF Tryz.func126 rfl rfl h
def fZZ (x1 x2:Int)(H:Hp)(K:VK):Prop:=
 BIf (x2==0) (K (.int .u64 1) H) (Hz 161 #[.int .i64 x1] H fun v1 H1=>gZ7 v1 fun x3 x4=>(K (.int .u64 x3) H1))
theorem fZZ.ok x1 x2 H K (h:fZZ x1 x2 H K):Za Tryz.prog 127 #[.int .i64 x1,.int .i64 x2] H K:=
 okN dZF Tryz.func127 rfl rfl h
def gZM (x1 x2:Int)(H:Hp)(K:VK):Prop:=
 Hz 162 #[.int .i64 x1] H fun v1 H1=>cZ9 v1 fun y1 x3=>(Nw H1 (.obj (.cells #[.int .i64 0,.int .i64 0] 122)) fun b1 H2=>StA H2 ⟨b1,0,none⟩ y1 2 fun H3=>LdA H3 ⟨b1,0,none⟩ 2 fun l4=>HcA 163 #[.agg l4.toArray] H3 fun y2 H4=>Nw H4 (.obj (.cells #[.int .i64 0,.int .i64 0] 122)) fun b2 H5=>StA H5 ⟨b2,0,none⟩ y2 2 fun H6=>LdA H6 ⟨b1,0,none⟩ 2 fun l5=>QcA 164 #[.agg l5.toArray,.int .i64 0,.int .i64 1] H6 fun y3=>LdA H6 ⟨b2,0,none⟩ 2 fun l6=>QcA 126 #[.agg l6.toArray,.int .i64 1,.int .i64 2,.int .i64 x2,.int .i64 x1,.int .u64 1] H6 fun y4=>LdA H6 ⟨b2,0,none⟩ 2 fun l7=>QcA 164 #[.agg l7.toArray,.int .i64 2,.int .i64 1] H6 fun y5=>LdA H6 ⟨b1,0,none⟩ 2 fun l8=>QcW 127 #[.int .i64 x1,.int .i64 x2] H6 fun x4=>QcA 126 #[.agg l8.toArray,.int .i64 1,.int .i64 2,.int .i64 x2,.int .i64 (-1),.int .u64 x4] H6 fun y6=>LdA H6 ⟨b1,0,none⟩ 2 fun l9=>QcA 164 #[.agg l9.toArray,.int .i64 2,.int .i64 3] H6 fun y7=>dZ6 y3.toList fun x5 x6 x7 x8 x9 x10 x11 x12=>(dZ6 y4.toList fun x13 x14 x15 x16 x17 x18 x19 x20=>(dZ6 y5.toList fun x21 x22 x23 x24 x25 x26 x27 x28=>(dZ6 y6.toList fun x29 x30 x31 x32 x33 x34 x35 x36=>(dZ6 y7.toList fun x37 x38 x39 x40 x41 x42 x43 x44=>(Nw H6 (.row [.int .i64 x5,.int .i64 x6,.int .i64 x7,.int .i64 x8,.int .u64 x9,.int .i64 x10,.int .i64 x11,.int .i64 x12,.int .i64 x13,.int .i64 x14,.int .i64 x15,.int .i64 x16,.int .u64 x17,.int .i64 x18,.int .i64 x19,.int .i64 x20,.int .i64 x21,.int .i64 x22,.int .i64 x23,.int .i64 x24,.int .u64 x25,.int .i64 x26,.int .i64 x27,.int .i64 x28,.int .i64 x29,.int .i64 x30,.int .i64 x31,.int .i64 x32,.int .u64 x33,.int .i64 x34,.int .i64 x35,.int .i64 x36,.int .i64 x37,.int .i64 x38,.int .i64 x39,.int .i64 x40,.int .u64 x41,.int .i64 x42,.int .i64 x43,.int .i64 x44] 126 40) fun b3 H7=>K (.slice (some ⟨b3,0,none⟩) 5 5) H7))))))
theorem gZM.ok x1 x2 H K (h:gZM x1 x2 H K):Za Tryz.prog 128 #[.int .i64 x1,.int .i64 x2] H K:=
 ok0 (fun i=>match Nat.beq i 3 with|true=>some ([],[0,1,2,3,4,5,6,7,8,9,10,11,12,13,14,15],16)|false=>none) dZF Tryz.func128 rfl rfl h
def gZN (x1 x2 x3 x4:Int)(H:Hp)(K:VK):Prop:=
 Nw H (.obj (.cells #[.int .i64 x1,.int .i64 x2] 122)) fun b1 H1=>Nw H1 (.obj (.cells #[.int .i64 0,.int .i64 0,.int .i64 0,.int .i64 0,.int .u64 0,.int .i64 0,.int .i64 0,.int .i64 0] 126)) fun b2 H2=>LdA H2 ⟨b1,0,none⟩ 2 fun l1=>qZz l1.toArray.toList fun x5 x6=>(StA H2 ⟨b2,0,none⟩ #[.int .i64 x5,.int .i64 x6,.int .i64 0,.int .i64 (-1),.int .u64 1,.int .i64 1,.int .i64 x3,.int .i64 x4] 8 fun H3=>LdA H3 ⟨b2,0,none⟩ 8 fun l4=>K (.agg l4.toArray) H3)
theorem gZN.ok x1 x2 x3 x4 H K (h:gZN x1 x2 x3 x4 H K):Za Tryz.prog 164 #[.agg #[.int .i64 x1,.int .i64 x2],.int .i64 x3,.int .i64 x4] H K:=
 okN dZF Tryz.func164 rfl rfl h
end Go.Proofs.YtgfildcgihbdaaaGreatDoor.W
namespace Go.Proofs.YtgfildcgihbdaaaGreatDoor.Pln
open Go Go.Hw W Shp Fft Ker Pas Str Dsk Trn
theorem qZd :∀ k:Nat,k<61→aZE .i64 2 (k:Int)=((2*2^k:Nat):Int):=by decide +kernel
theorem cZI {k:Nat}(hk:k≤32):2^k≤4294967296:=Nat.pow_le_pow_right (n:=2) (by omega) hk
theorem eZ2 {per:Nat}(hp:bZ8 (per:Int)=true):4≤per∧per≤512:=by have:=eZl hp;omega
section
variable {k per words : Nat} (hk : k ≤ 32) (hp : bZ8 (per : Int) = true)
include hk
theorem oZv (hp:per≤512)(H:Hp):Za Tryz.prog 101 #[.int .i64 (k:Int),.int .i64 (per:Int)] H (RetE (.int .i64 (aZR k per:Int)) H):=by
 have h1:=cZI (k:=(k+1)/2) (by omega);apply fZY.ok;unfold fZY;rw[ZG (x:=(k:Int)+1) (by omega) (by omega),show Int.tdiv ((k:Int)+1) 2=(((k+1)/2:Nat):Int)from rfl,aZJ (by omega),cZg (by omega),qZd _ (by omega),ZG (by omega) (by omega)];refine⟨by decide,by simp,by omega,?_⟩;exact RetE.of (by unfold aZR;rw[Int.natCast_add])
include hp
theorem eZ0 (H:Hp):Za Tryz.prog 100 #[.int .i64 (k:Int),.int .i64 (per:Int)] H (RetE (.bool true) H):=by
 have h:=eZ2 hp;apply gZL.ok;unfold gZL;refine Zn (by omega) (Zn (by omega) (Zn (by omega) (Zn (by omega) ?_)));rw[(mZm (p:=(per:Int)) (by omega) (by omega)).2 hp];exact RetE.mk _ _
theorem tZt (H:Hp):Za Tryz.prog 71 #[.int .i64 (k:Int),.int .i64 (per:Int)] H (RetE (.tuple #[.int .i64 (aZR k per:Int),.int .i64 0]) H):=by
 have h:=eZ2 hp;apply fZW.ok;unfold fZW;refine Za.use (eZ0 hk hp H) ?_
 try simp only[HV]
 refine Za.use (oZv hk (by omega) H) ?_
 try simp only[HV]
 exact RetE.mk _ _
theorem tZz (hw:words≤16777216)(H:Hp):Za Tryz.prog 125 #[.int .i64 (k:Int),.int .i64 (per:Int),.int .i64 (words:Int)] H (RetE (.bool (decide (2*2^k+per≤words))) H):=by
 have h:=eZ2 hp;have h1:=cZI hk;apply fZX.ok;unfold fZX;refine Za.use (eZ0 hk hp H) ?_
 try simp only[HV]
 rw[cZg (by omega),qZd _ (by omega),ZG (by omega) (by omega)];refine⟨by omega,?_⟩;exact RetE.of (by congr 1;rw[decide_eq_decide];omega)
end
theorem oZY {k:Nat}(hk:k≤32)(d:Bool)(H:Hp):Za Tryz.prog 127 #[.int .i64 (k:Int),.int .i64 (if d=true then 1 else 0)] H (RetE (.int .u64 ((gZk d k).toNat:Int)) H):=by
 apply fZZ.ok;unfold fZZ;cases d with
 |false=>exact ZS rfl (RetE.mk _ _)
 |true=>
  refine aZg (by decide) ?_;refine Za.use (nZ6 hk H) ?_
  try simp only[HV]
  exact RetE.of (by unfold gZk;rw[if_pos rfl,oZ8])
theorem mZv (a b f o:Int)(H:Hp):Za Tryz.prog 164 #[.agg #[.int .i64 a,.int .i64 b],.int .i64 f,.int .i64 o] H (RetE (.agg #[.int .i64 a,.int .i64 b,.int .i64 0,.int .i64 (-1),.int .u64 1,.int .i64 1,.int .i64 f,.int .i64 o]) H):=Za.ret (by
 apply gZN.ok;unfold gZN;refine(Sep.start H).nw fun b1 H1 hs=>?_
 refine hs.nw fun b2 H1 hs=>?_
 refine hs.ldw 1 rfl rfl ?_;simp only[HV];refine hs.stw 2 rfl rfl rfl rfl fun H1 hs=>?_
 refine hs.ldw 2 rfl rfl ?_;exact hs.fin 0 rfl _)
theorem jZo (a b f o di tw sh:Int)(H:Hp):Za Tryz.prog 126 #[.agg #[.int .i64 a,.int .i64 b],.int .i64 f,.int .i64 o,.int .i64 di,.int .i64 tw,.int .u64 sh] H (RetE (.agg #[.int .i64 a,.int .i64 b,.int .i64 di,.int .i64 tw,.int .u64 sh,.int .i64 2,.int .i64 f,.int .i64 o]) H):=Za.ret (by
 apply fZt.ok;unfold fZt;refine(Sep.start H).nw fun b1 H1 hs=>?_
 refine hs.nw fun b2 H1 hs=>?_
 refine hs.ldw 1 rfl rfl ?_;simp only[HV];refine hs.stw 2 rfl rfl rfl rfl fun H1 hs=>?_
 refine hs.ldw 2 rfl rfl ?_;exact hs.fin 0 rfl _)
theorem rZH (a b:Int)(H:Hp):Za Tryz.prog 163 #[.agg #[.int .i64 a,.int .i64 b]] H (RetE (.agg #[.int .i64 b,.int .i64 a]) H):=Za.ret (by
 apply eZU.ok;unfold eZU;refine(Sep.start H).nw fun b1 H1 hs=>?_
 refine hs.nw fun b2 H1 hs=>?_
 refine hs.ldf 1 rfl rfl ?_;simp only[HV];refine hs.ldf 1 rfl rfl ?_;simp only[HV];refine hs.stw 2 rfl rfl rfl rfl fun H1 hs=>?_
 refine hs.ldw 2 rfl rfl ?_;exact hs.fin 0 rfl _)
theorem uZj {k a:Nat}(hk:k≤32)(ha:a≤k)(H:Hp):Za Tryz.prog 190 #[.int .i64 (k:Int),.int .i64 (a:Int)] H (RetE (.agg #[.int .i64 ((2^a:Nat):Int),.int .i64 ((2^(k-a):Nat):Int)]) H):=Za.ret (by
 apply fZw.ok;unfold fZw;refine(Sep.start H).nw fun b1 H1 hs=>?_
 rw[ZG (x:=(k:Int)-a) (by omega) (by omega),show(k:Int)-a=((k-a:Nat):Int) by omega,cZg (by omega),cZg (by omega),Lay.gZz (by omega),Lay.gZz (by omega)];refine⟨by omega,by omega,?_⟩;refine hs.stw 1 rfl rfl rfl rfl fun H1 hs=>?_
 refine hs.ldw 1 rfl rfl ?_;exact hs.fin 0 rfl _)
theorem uZf {k:Nat}(hk:k≤32)(H:Hp):Za Tryz.prog 189 #[.int .i64 (k:Int)] H (RetE (.bool true) H):=by
 apply fZ5.ok;unfold fZ5;refine Zn (by omega) ?_;rw[decide_eq_true (by omega)];exact RetE.mk _ _
theorem vZe {k:Nat}(hk:k≤32)(H:Hp):Za Tryz.prog 162 #[.int .i64 (k:Int)] H (RetE (.tuple #[.agg #[.int .i64 ((2^(k/2):Nat):Int),.int .i64 ((2^(k-k/2):Nat):Int)],.int .i64 0]) H):=Za.ret (by
 apply fZ2.ok;unfold fZ2;refine(Sep.start H).nw fun b1 H1 hs=>?_
 refine Za.use (uZf hk H1) ?_
 try simp only[HV]
 rw[show Int.tdiv (k:Int) 2=((k/2:Nat):Int)from rfl,aZJ (by omega)];refine⟨by decide,by simp,?_⟩;refine Za.use (uZj hk (a:=k/2) (by omega) H1) ?_
 try simp only[HV]
 refine hs.stw 1 rfl rfl rfl rfl fun H1 hs=>?_
 refine hs.ldw 1 rfl rfl ?_;exact hs.fin 0 rfl _)
def bZq (ps:List Pz):List Value:=ps.flatMap fun p=>p.c.toList
theorem jZE :∀ ps:List Pz,(bZq ps).length=ps.length*8
 | []=>rfl
 |p::ps=>by
  show(p.c.toList++bZq ps).length=_
  rw[List.length_append,jZE ps,List.length_cons,Nat.succ_mul];have:p.c.toList.length=8:=rfl;omega
theorem jZD :∀(ps:List Pz) (i:Nat) (p:Pz),ps[i]? =some p→((bZq ps).drop (i*8)).take 8=p.c.toList
 | [],i,p,h=>by simp at h
 |q::ps,0,p,h=>by
  cases h;show((q.c.toList++bZq ps).drop (0*8)).take 8=_
  rw[Nat.zero_mul,List.drop_zero,List.take_append_of_le_length (by show 8≤8;omega)];rfl
 |q::ps,i+1,p,h=>by
  show((q.c.toList++bZq ps).drop ((i+1)*8)).take 8=_
  have e:(i+1)*8=q.c.toList.length+i*8:=by have:q.c.toList.length=8:=rfl;omega
  rw[e,List.drop_append,List.drop_eq_nil_of_le (by omega),List.nil_append,Nat.add_sub_cancel_left];exact jZD ps i p (by simpa using h)
theorem vZF {k:Nat}(hk:k≤32)(d:Bool):Tr Tryz.prog 128 #[.int .i64 (k:Int),.int .i64 (if d=true then 1 else 0)] [] fun v M=>∃ b,v= .slice (some ⟨b,0,none⟩) 5 5∧M=[pts b (.row (bZq (gZf d k)) 126 40)]:=fun H hs=>by
 apply gZM.ok;unfold gZM;refine Za.use (vZe hk H) ?_
 try simp only[HV]
 refine hs.nw fun b1 H hs=>?_
 refine hs.stw 0 rfl rfl rfl rfl fun H hs=>?_;refine hs.ldw 0 rfl rfl ?_;refine Za.use (rZH _ _ H) ?_
 try simp only[HV]
 refine hs.nw fun b2 H hs=>?_
 refine hs.stw 1 rfl rfl rfl rfl fun H hs=>?_;refine hs.ldw 0 rfl rfl ?_;refine ZQ.use (mZv _ _ 0 1 H) ?_
 try simp only[HV]
 refine hs.ldw 1 rfl rfl ?_;refine ZQ.use (jZo _ _ 1 2 (if d=true then 1 else 0) (k:Int) 1 H) ?_
 try simp only[HV]
 refine hs.ldw 1 rfl rfl ?_;refine ZQ.use (mZv _ _ 2 1 H) ?_
 try simp only[HV]
 refine hs.ldw 0 rfl rfl ?_;refine ZQ.use (oZY hk d H) ?_
 try simp only[HV]
 refine ZQ.use (jZo _ _ 1 2 (if d=true then 1 else 0) (-1) ((gZk d k).toNat:Int) H) ?_
 try simp only[HV]
 refine hs.ldw 0 rfl rfl ?_;refine ZQ.use (mZv _ _ 2 3 H) ?_
 try simp only[HV]
 refine hs.nw fun b3 H hs=>?_
 exact⟨_,⟨b3,rfl,rfl⟩,hs.re [2] rfl⟩
def pZZ (d:Bool)(k per words:Nat)(v:Value)(M:List As):Prop:=∃ b,v= .tuple #[.slice (some ⟨b,0,none⟩) (aZb d k per words).length (aZb d k per words).length,.int .i64 0]∧M=[pts b (.row (bZq (aZb d k per words)) 126 ((aZb d k per words).length*8))]
theorem mZB {k per words:Nat}(hk:k≤32)(hp:bZ8 (per:Int)=true)(hw:aZR k per≤words∧words≤16777216)(d:Bool):
  Tr Tryz.prog 85 #[.int .i64 (k:Int),.int .i64 (if d=true then 1 else 0),.int .i64 (per:Int),.int .i64 (words:Int)] [] (pZZ d k per words):=fun H hs=>by
 have h:=eZ2 hp;have h1:=cZI hk;apply fZs.ok;unfold fZs;refine Za.use (eZ0 hk hp H) ?_
 try simp only[HV]
 refine Zh (by cases d<;>decide) (Zh (by cases d<;>decide) ?_);refine Za.use (oZv hk h.2 H) ?_
 try simp only[HV]
 refine Zh (by omega) ?_;refine Za.use (tZz hk hp hw.2 H) ?_
 try simp only[HV]
 have long:oZZ k per words=false→Za Tryz.prog 128 #[.int .i64 (k:Int),.int .i64 (if d=true then 1 else 0)] H fun v14 H7=>DSl v14 fun A1 n1 m1=>∃ M,pZZ d k per words (.tuple #[.slice A1 n1 m1,.int .i64 0]) M∧Sep M H7:=fun hb=>by
  refine(vZF hk d).use hs [] rfl rfl ?_;rintro _ _ H1 ⟨b,rfl,rfl⟩ hs;simp only[HV];have e:aZb d k per words=gZf d k:=by unfold aZb;rw[if_neg (by rw[hb];simp)]
  exact⟨_,⟨b,by rw[e];rfl,rfl⟩,by rw[e];exact hs⟩
 by_cases hs1:2*2^k+per≤words
 ·refine Zn hs1 ?_;by_cases hk2:k≤20
  ·refine Zn (by omega) ?_;rw[cZg (by omega),Lay.gZz (by omega)];refine⟨by omega,?_⟩;refine Za.use (oZY hk d H) ?_
   try simp only[HV]
   refine Za.use (jZo _ _ 0 3 (if d=true then 1 else 0) (-1) ((gZk d k).toNat:Int) H) ?_
   try simp only[HV]
   refine hs.nw fun b1 H hs=>?_
   have e:aZb d k per words=[oZ0 d k]:=by unfold aZb;rw[if_pos (show oZZ k per words=true from decide_eq_true ⟨hk2,hs1⟩)]
   exact⟨_,⟨b1,by rw[e];rfl,rfl⟩,by rw[e];exact hs⟩
  ·refine Zh (by omega) (long (decide_eq_false (by omega)))
 ·exact Zh hs1 (long (decide_eq_false (by omega)))
end Go.Proofs.YtgfildcgihbdaaaGreatDoor.Pln
namespace Go.Proofs.YtgfildcgihbdaaaGreatDoor.Lib
open Go Go.Proofs Go.Shelf Go.RowKit Go.Maps Go.Sort
def kZA :Go.Shelf.Ren:=⟨fun|6=>94|8=>142|9=>143|11=>181|13=>148|12=>182|23=>183|24=>184|14=>203|15=>204|16=>205|17=>206|18=>207|19=>208|20=>209|21=>210|22=>211|25=>232|26=>228|27=>229|28=>233|29=>234|30=>235|31=>248|n=>n,fun|26=>3|28=>171|24=>134|0=>0|3=>3|37=>110|48=>100|50=>82|4=>4|40=>294|39=>293|45=>150|5=>5|9=>9|51=>324|55=>328|57=>340|58=>341|33=>232|n=>n,fun|n=>n⟩
theorem vZ3 :Go.Proofs.SlLaysZI.n6 Tryz.prog kZA where
 mixed:=by kernel_rfl
 f6 := ⟨ "slices.Sorted[int]", by decide, Tryz.func94.trans (congrArg some (by kernel_rfl))⟩
 f8 := ⟨ "slices.Collect[int]", by decide, Tryz.func142.trans (congrArg some (by kernel_rfl))⟩
 f11 := ⟨ "slices.AppendSeq[[]int,int]", by decide, Tryz.func181.trans (congrArg some (by kernel_rfl))⟩
 t0:=Tryz.underlying0
 a0:=Tryz.isAgg0
 z0:=Tryz.sizeOf0
 v0:=Tryz.zeroValue0
 t24:=Tryz.underlying134
 a24:=Tryz.isAgg134
 z24:=Tryz.sizeOf134
 v24:=Tryz.zeroValue134
 t26:=Tryz.underlying3
 a26:=Tryz.isAgg3
 z26:=Tryz.sizeOf3
 v26:=Tryz.zeroValue3
 t28:=Tryz.underlying171
 a28:=Tryz.isAgg171
 z28:=Tryz.sizeOf171
 v28:=Tryz.zeroValue171
 i26:=by kernel_rfl
def sZU :Go.Shelf.Ren:=⟨fun|5=>143|8=>148|7=>182|19=>183|20=>184|10=>203|11=>204|12=>205|13=>206|14=>207|15=>208|16=>209|17=>210|18=>211|30=>232|31=>228|32=>229|33=>233|34=>234|35=>235|40=>248|n=>n,fun|23=>134|25=>3|3=>3|32=>110|22=>134|0=>0|44=>100|46=>82|4=>4|36=>294|35=>293|41=>150|5=>5|9=>9|53=>324|57=>328|63=>340|64=>341|n=>n,fun|n=>n⟩
theorem uZ2 :Go.Proofs.SlLaysM.n5 Tryz.prog sZU where
 mixed:=by kernel_rfl
 f5 := ⟨ "slices.Sort[[]int,int]", by decide, Tryz.func143.trans (congrArg some (by kernel_rfl))⟩
 f7 := ⟨ "slices.pdqsortOrdered[int]", by decide, Tryz.func182.trans (congrArg some (by kernel_rfl))⟩
 f8:=Tryz.func148.trans (congrArg some (by kernel_rfl))
 f10 := ⟨ "slices.insertionSortOrdered[int]", by decide, Tryz.func203.trans (congrArg some (by kernel_rfl))⟩
 f11 := ⟨ "slices.heapSortOrdered[int]", by decide, Tryz.func204.trans (congrArg some (by kernel_rfl))⟩
 f12 := ⟨ "slices.breakPatternsOrdered[int]", by decide, Tryz.func205.trans (congrArg some (by kernel_rfl))⟩
 f13 := ⟨ "slices.choosePivotOrdered[int]", by decide, Tryz.func206.trans (congrArg some (by kernel_rfl))⟩
 f14 := ⟨ "slices.reverseRangeOrdered[int]", by decide, Tryz.func207.trans (congrArg some (by kernel_rfl))⟩
 f15 := ⟨ "slices.partialInsertionSortOrdered[int]", by decide, Tryz.func208.trans (congrArg some (by kernel_rfl))⟩
 f16 := ⟨ "cmp.Less[int]", by decide, Tryz.func209.trans (congrArg some (by kernel_rfl))⟩
 f17 := ⟨ "slices.partitionEqualOrdered[int]", by decide, Tryz.func210.trans (congrArg some (by kernel_rfl))⟩
 f18 := ⟨ "slices.partitionOrdered[int]", by decide, Tryz.func211.trans (congrArg some (by kernel_rfl))⟩
 f19:=Tryz.func183.trans (congrArg some (by kernel_rfl))
 f20:=Tryz.func184.trans (congrArg some (by kernel_rfl))
 f30 := ⟨ "slices.siftDownOrdered[int]", by decide, Tryz.func232.trans (congrArg some (by kernel_rfl))⟩
 f31:=Tryz.func228.trans (congrArg some (by kernel_rfl))
 f32:=Tryz.func229.trans (congrArg some (by kernel_rfl))
 f33 := ⟨ "slices.medianAdjacentOrdered[int]", by decide, Tryz.func233.trans (congrArg some (by kernel_rfl))⟩
 f34 := ⟨ "slices.medianOrdered[int]", by decide, Tryz.func234.trans (congrArg some (by kernel_rfl))⟩
 f35 := ⟨ "cmp.isNaN[int]", by decide, Tryz.func235.trans (congrArg some (by kernel_rfl))⟩
 f40 := ⟨ "slices.order2Ordered[int]", by decide, Tryz.func248.trans (congrArg some (by kernel_rfl))⟩
 t0:=Tryz.underlying0
 a0:=Tryz.isAgg0
 z0:=Tryz.sizeOf0
 v0:=Tryz.zeroValue0
 t3:=Tryz.underlying3
 a3:=Tryz.isAgg3
 z3:=Tryz.sizeOf3
 v3:=Tryz.zeroValue3
 t4:=Tryz.underlying4
 a4:=Tryz.isAgg4
 z4:=Tryz.sizeOf4
 v4:=Tryz.zeroValue4
 t5:=Tryz.underlying5
 a5:=Tryz.isAgg5
 z5:=Tryz.sizeOf5
 v5:=Tryz.zeroValue5
 t9:=Tryz.underlying9
 a9:=Tryz.isAgg9
 z9:=Tryz.sizeOf9
 v9:=Tryz.zeroValue9
 t22:=Tryz.underlying134
 a22:=Tryz.isAgg134
 z22:=Tryz.sizeOf134
 v22:=Tryz.zeroValue134
 t23:=Tryz.underlying134
 a23:=Tryz.isAgg134
 z23:=Tryz.sizeOf134
 v23:=Tryz.zeroValue134
 t25:=Tryz.underlying3
 a25:=Tryz.isAgg3
 z25:=Tryz.sizeOf3
 v25:=Tryz.zeroValue3
 t32:=Tryz.underlying110
 a32:=Tryz.isAgg110
 z32:=Tryz.sizeOf110
 v32:=Tryz.zeroValue110
 t35:=Tryz.underlying293
 a35:=Tryz.isAgg293
 z35:=Tryz.sizeOf293
 v35:=Tryz.zeroValue293
 t36:=Tryz.underlying294
 a36:=Tryz.isAgg294
 z36:=Tryz.sizeOf294
 v36:=Tryz.zeroValue294
 t41:=Tryz.underlying150
 a41:=Tryz.isAgg150
 z41:=Tryz.sizeOf150
 v41:=Tryz.zeroValue150
 t44:=Tryz.underlying100
 a44:=Tryz.isAgg100
 z44:=Tryz.sizeOf100
 v44:=Tryz.zeroValue100
 t46:=Tryz.underlying82
 a46:=Tryz.isAgg82
 z46:=Tryz.sizeOf82
 v46:=Tryz.zeroValue82
 t53:=Tryz.underlying324
 a53:=Tryz.isAgg324
 z53:=Tryz.sizeOf324
 v53:=Tryz.zeroValue324
 t57:=Tryz.underlying328
 a57:=Tryz.isAgg328
 z57:=Tryz.sizeOf328
 v57:=Tryz.zeroValue328
 t63:=Tryz.underlying340
 a63:=Tryz.isAgg340
 z63:=Tryz.sizeOf340
 v63:=Tryz.zeroValue340
 t64:=Tryz.underlying341
 a64:=Tryz.isAgg341
 z64:=Tryz.sizeOf341
 v64:=Tryz.zeroValue341
def iZa :Go.Shelf.Ren:=⟨fun|7=>95|10=>144|n=>n,fun|23=>45|26=>3|3=>9|28=>171|0=>0|27=>170|33=>232|4=>4|n=>n,fun|n=>n⟩
theorem kZr :Go.Proofs.SlLaysZI.n7 Tryz.prog iZa where
 mixed:=by kernel_rfl
 f7 := ⟨ "maps.Keys[map[int]string,int,string]", by decide, Tryz.func95.trans (congrArg some (by kernel_rfl))⟩
 f10 := ⟨ "maps.Keys[map[int]string,int,string]$1", by decide, Tryz.func144.trans (congrArg some (by kernel_rfl))⟩
 t0:=Tryz.underlying0
 a0:=Tryz.isAgg0
 z0:=Tryz.sizeOf0
 v0:=Tryz.zeroValue0
 t4:=Tryz.underlying4
 a4:=Tryz.isAgg4
 z4:=Tryz.sizeOf4
 v4:=Tryz.zeroValue4
 t23:=Tryz.underlying45
 a23:=Tryz.isAgg45
 z23:=Tryz.sizeOf45
 v23:=Tryz.zeroValue45
 t26:=Tryz.underlying3
 a26:=Tryz.isAgg3
 z26:=Tryz.sizeOf3
 v26:=Tryz.zeroValue3
 t27:=Tryz.underlying170
 a27:=Tryz.isAgg170
 z27:=Tryz.sizeOf170
 v27:=Tryz.zeroValue170
 t28:=Tryz.underlying171
 a28:=Tryz.isAgg171
 z28:=Tryz.sizeOf171
 v28:=Tryz.zeroValue171
 t33:=Tryz.underlying232
 a33:=Tryz.isAgg232
 z33:=Tryz.sizeOf232
 v33:=Tryz.zeroValue232
end Go.Proofs.YtgfildcgihbdaaaGreatDoor.Lib
namespace Go.Hw
open Go Go.Proofs Go.Proofs.YtgfildcgihbdaaaGreatDoor.Lib Go.RowKit Go.Maps Go.Sort Go.Shelf
open Go.WideElems (Fit rd rg)
theorem mZ8 :∀(N:Nat) (l:List Nat),l.Nodup→(∀ x∈l,x<N)→l.length≤N
 |0,[],_,_=>by simp
 |0,x::_,_,h=>absurd (h x (by simp)) (by omega)
 |N+1,l,hn,h=>by
  have:=mZ8 N (l.erase N) (hn.erase N) fun x hx=>by
   rw[hn.mem_erase_iff]at hx;have:=h x hx.2;have:=hx.1;omega
  rw[List.length_erase]at this;split at this<;>omega
structure KeysOf (m:Int→Option Value)(ks:List Int):Prop where
 up:ks.Pairwise (fun a b=>a<b)
 mem:∀ k,k∈ks↔(m k).isSome=true
theorem pZX {l:List (Int×Value×Nat)}{clock:Nat}{m:Int→Option Value}(h:OkK l clock m){N:Nat}(hd:∀ k,(m k).isSome=true→0≤k∧k<N):l.length≤N∧∀ x∈l,0≤x.1∧x.1<N:=by
 have hmem:∀ x∈l,0≤x.1∧x.1<N:=fun x hx=>by
  apply hd;rw[← h.get,kZP h.nd hx];rfl
 refine⟨?_,hmem⟩;have hn:((l.map (·.1)).map Int.toNat).Nodup:=by
  rw[List.nodup_iff_pairwise_ne,List.pairwise_map];have:=h.nd;rw[List.nodup_iff_pairwise_ne]at this;refine this.imp_of_mem ?_;intro a b ha hb hne e;obtain⟨x,hx,rfl⟩:=List.mem_map.1 ha;obtain⟨y,hy,rfl⟩:=List.mem_map.1 hb;have:=hmem x hx;have:=hmem y hy;omega
 have:=mZ8 N _ hn fun x hx=>by
  obtain⟨y,hy,rfl⟩:=List.mem_map.1 hx;obtain⟨z,hz,rfl⟩:=List.mem_map.1 hy;have:=hmem z hz;omega
 simpa using this
def rNo :Value→Option (DataW Unit×List MemPlace):=fun _=>some (.lit (.bool true),[])
theorem vZL {P:Program}{k:TypeId}(hk:P.underlying k=some (.int .i64)){l:List (Int×Value×Nat)}{clock:Nat}{m:Int→Option Value}(h:OkK l clock m){N:Nat}(hN:N≤1048576)(hd:∀ k,(m k).isSome=true→0≤k∧k<N):
  Fit P k rNo (l.map bZt).toArray clock∧(l.map bZt).map (rg P k rNo)=l.map fun x=>(Lit.int .i64 x.1,DataW.lit (.bool true)):=by
 obtain⟨h1,h2⟩:=pZX h hd;have hrd:∀ x∈l,rd P k rNo (bZt x)=some (Lit.int .i64 x.1,DataW.lit (.bool true)):=fun x hx=>by
  have:=h2 x hx;have hw:(Lit.int .i64 x.1).wf=true:=by
   have e:(Lit.int .i64 x.1).wf=decide (-9223372036854775808≤x.1∧x.1≤9223372036854775807):=by
    simp[Lit.wf,IntKind.min,IntKind.max,IntKind.bits,IntKind.signed]
   rw[e,decide_eq_true_eq];omega
  refine Go.WideElems.rd_mk (yv:=(DataW.lit (.bool true),[])) (kl:=Lit.int .i64 x.1) ?_ rfl;simp[keyOf,mapKey,hk,hw]
 refine⟨⟨?_,⟨fun x hx=>?_,?_,?_⟩,fun x hx=>?_⟩,?_⟩
 ·simp only[List.size_toArray,List.length_map];exact Nat.le_trans h1 (Nat.le_trans hN (by decide))
 ·obtain⟨y,hy,rfl⟩:=List.mem_map.1 hx;exact h.bl y hy
 ·have:=h.bn;simpa [List.map_map,Function.comp_def,bZt]using this
 ·rw[List.map_map];have:=h.nd;rw[List.nodup_iff_pairwise_ne,List.pairwise_map]at this⊢;exact this.imp fun hne e=>hne (by simpa [bZt]using e)
 ·obtain⟨y,hy,rfl⟩:=List.mem_map.1 hx;exact⟨_,hrd y hy⟩
 ·rw[List.map_map];exact List.map_congr_left fun x hx=>Go.WideElems.rg_of (hrd x hx)
theorem xZA (m:Nat):AnyZI.SortsIn Tryz.prog kZA Fence.wide m:=
 ⟨fun blk off cap ss W hH hblk hsz=>callsIn_wide.2 (AnyM.slices_Sort_int uZ2 blk off cap ss W hH hblk hsz),fun p cap W=>callsIn_wide.2 (AnyM.slices_Sort_int_none uZ2 p cap W)⟩
theorem pZg (r:Nat)(H:Hp):Za Tryz.prog 95 #[.map (some r)] H fun v H'=>
  ∃ b,H b=none∧v= .func (.func 144) #[] #[.pointer (some ⟨b,0,none⟩)]∧H'=H.set b (.obj (.cells #[.map (some r)] 45)):=fun w hw=>by
 have c:CallsIn Fence.wide 5 Tryz.prog 95 #[.map (some r)] w fun e w'=>e= .returned (.func (.func 144) #[] #[.pointer (some ⟨w.heap.size,0,none⟩)])∧w'=w.alloc (.cells #[.map (some r)] 45):=
  AnyZI.keys_in kZr Fence.wide 5 trivial rfl (some r) w
 refine(callsIn_wide.1 c).mono ?_;rintro e w' ⟨rfl,rfl⟩;obtain⟨hn,hA⟩:=(At.refl hw).new (o:=.obj (.cells #[.map (some r)] 45)) (x:=.cells #[.map (some r)] 45) rfl;exact⟨_,_,rfl,⟨w.heap.size,hn,rfl,rfl⟩,hA⟩
theorem nZs {r b clock:Nat}{l:List (Int×Value×Nat)}{m:Int→Option Value}(hok:OkK l clock m){N:Nat}(hN:N≤1048576)(hd:∀ k,(m k).isSome=true→0≤k∧k<N)(H:Hp)(hr:H r=some (cZ1 l clock))(hb:H b=some (.obj (.cells #[.map (some r)] 45))):
  Za Tryz.prog 94 #[.func (.func 144) #[] #[.pointer (some ⟨b,0,none⟩)]] H fun v H'=>
   ∃ ks,KeysOf m ks∧ks.length≤N∧((ks=[]∧v= .slice none 0 0∧H'=H)∨∃ b' cap,v= .slice (some ⟨b',0,none⟩) ks.length cap∧ks.length≤cap∧H b'=none∧H'=H.set b' (.row (ks.map (Value.int .i64)) 3 cap)):=fun w hw=>by
 have hu:Tryz.prog.underlying 3=some (.int .i64):=by kernel_rfl
 obtain⟨hfit,hrg⟩:=vZL (P:=Tryz.prog) (k:=3) hu hok hN hd;obtain⟨hlen,hmem⟩:=pZX hok hd;have hheap:=cZ1.heap hr hw;have hbh:w.heap[b]? =some (.cells #[.map (some r)] 45 (0,0)):=by
  obtain⟨o,ho,hh⟩:=hw _ _ hb;cases hh;exact ho
 have hown:w.ownsMap Tryz.prog 3 rNo r l.length (.map ((((l.map bZt).toArray.toList).map (rg Tryz.prog 3 rNo)).foldr DataW.insert [])):=⟨_,clock,hheap,hfit,by simp,rfl⟩;rw[List.toList_toArray,hrg]at hown;have hperm:=Go.WideShapes.sorted_perm (l.map fun x=>(Lit.int .i64 x.1,(DataW.lit (.bool true):DataW Unit)));have hik:(intKeys (.map ((l.map fun x=>(Lit.int .i64 x.1,(DataW.lit (.bool true):DataW Unit))).foldr DataW.insert []))).Perm (l.map (·.1)):=by
  have:=hperm.map fun p=>intOf p.1
  rw[List.map_map]at this;exact this
 have hsize:Maps.size (DataW.map ((l.map fun x=>(Lit.int .i64 x.1,(DataW.lit (.bool true):DataW Unit))).foldr DataW.insert []))=l.length:=by
  have:=hperm.length_eq;rw[List.length_map]at this;exact this
 have hseq:SeqGives Fence.wide 2 Tryz.prog 144 #[.pointer (some ⟨b,0,none⟩)] encZ (fun ss=>ss.Perm (intKeys _)) (Maps.size _) w:=
  AnyZI.keys_gives (ρ:=iZa) { kZr with} Fence.wide _ trivial rfl (by omega) b r l.length _ w (Array.getElem?_eq_some_iff.1 hbh).1 (by simp[World.cell?,hbh]) hown
 have cS:=AnyZI.sorted_in vZ3 Fence.wide 5 trivial trivial trivial trivial rfl (by omega) (xZA _) (enters_of Tryz.func143 (by kernel_rfl) rfl) 144 #[.pointer (some ⟨b,0,none⟩)] trivial (enters_of Tryz.func144 (by kernel_rfl) rfl) _ _ (by rw[hsize];exact Nat.le_trans hlen (Nat.le_trans hN (by decide))) (by rw[hsize];omega) w hseq;change CallsIn _ _ Tryz.prog 94 _ _ _ at cS;refine(callsIn_wide.1 cS).mono ?_;rintro e w' ⟨v,ss,rfl,hS,hrow,hnil,hbel⟩;have hp:(ss.mergeSort fun x y=>decide (x≤y)).Perm (l.map (·.1)):=(List.mergeSort_perm _ _).trans (hS.trans hik);have hks:KeysOf m (ss.mergeSort fun x y=>decide (x≤y)):=by
  refine⟨?_,fun k=>?_⟩
  ·have h1:=List.pairwise_mergeSort (le:=fun x y:Int=>decide (x≤y)) (fun a b c h1 h2=>by simp only[decide_eq_true_eq]at *;omega) (fun a b=>by simp only[Bool.or_eq_true,decide_eq_true_eq];omega) ss;have h2:(ss.mergeSort fun x y=>decide (x≤y)).Nodup:=hp.nodup_iff.2 hok.nd;rw[List.nodup_iff_pairwise_ne]at h2;refine(h1.and h2).imp ?_;rintro a b ⟨h3,h4⟩;simp only[decide_eq_true_eq]at h3;omega
  ·rw[hp.mem_iff,←hok.get];constructor
   ·intro hk;obtain⟨x,hx,rfl⟩:=List.mem_map.1 hk;rw[kZP hok.nd hx];rfl
   ·intro hk;cases hg:cZx l k with
    |none=>rw[hg]at hk;cases hk
    |some v=>
     obtain⟨b,hb⟩:=rZ6 hg;exact List.mem_map.2 ⟨_,hb,rfl⟩
 have hkl:(ss.mergeSort fun x y=>decide (x≤y)).length=ss.length:=List.length_mergeSort _;have hsl:ss.length≤N:=by
  rw[← hkl,hp.length_eq,List.length_map];exact hlen
 obtain⟨hxl,hcase⟩:=hrow;rcases hcase with⟨rfl,h0⟩|⟨g,cap,cur,rfl,hg,hgh,hnc,hcm,hcs,htk⟩
 ·have hss:ss=[]:=hnil.1 rfl;refine⟨_,H,rfl,⟨_,hks,by omega,.inl ⟨List.length_eq_zero_iff.1 (by rw[hkl,hss];rfl),rfl,rfl⟩⟩,?_⟩;exact⟨fun i o hi=>by
   obtain⟨o',h1,h2⟩:=hw i o hi;exact⟨o',(hbel.block i (Array.getElem?_eq_some_iff.1 h1).1).trans h1,h2⟩,hbel.size,hbel.os,hbel.tape,hbel.output,fun i hi h0=>⟨h0,hbel.block i hi⟩⟩
 ·have hgn:H g=none:=by
   cases hx:H g with
   |none=>rfl
   |some o=>
    obtain⟨o',h1,_⟩:=hw g o hx;have:=(Array.getElem?_eq_some_iff.1 h1).1;omega
  rw[Nat.mul_one]at hcs htk;refine⟨_,H.set g (.row ((ss.mergeSort fun x y=>decide (x≤y)).map (Value.int .i64)) 3 cap),rfl,⟨_,hks,by omega,.inr ⟨g,cap,by rw[hkl],by omega,hgn,rfl⟩⟩,?_⟩;refine⟨fun i o hi=>?_,hbel.size,hbel.os,hbel.tape,hbel.output,fun i hi h0=>⟨?_,hbel.block i hi⟩⟩
  ·by_cases hig:i=g
   ·subst hig;rw[Hp.set_same]at hi;cases hi;refine⟨_,hgh,cur.toList.drop ss.length,0,0,?_,?_,.inl rfl⟩
    ·rw[← htk,List.take_append_drop,Array.toArray_toList];rfl
    ·rw[← htk,List.take_append_drop,Array.length_toList];exact hcs
   ·rw[Hp.set_other _ _ hig]at hi;obtain⟨o',h1,h2⟩:=hw i o hi;exact⟨o',(hbel.block i (Array.getElem?_eq_some_iff.1 h1).1).trans h1,h2⟩
  ·rw[Hp.set_other _ _ (by omega)];exact h0
end Go.Hw
namespace Go.Proofs.YtgfildcgihbdaaaGreatDoor.Dsk
open Go Go.Hw Go.Form W
def Dom (d:D):Prop:=∀ k,(d.cache k).isSome=true→0≤k∧k<d.sec
theorem iZk (m:Int→Option (List UInt8))(k:Int):(bZp m k).isSome=(m k).isSome:=by unfold bZp;cases m k<;>rfl
theorem tZr {p:Nat}{d:D}(hok:Ok d)(hd:Dom d):Tr Tryz.prog 67 #[.pointer (some ⟨p,0,none⟩)] [Dk p d] fun v M=>
  ∃ ks A cap,KeysOf (bZp d.cache) ks∧ks.length≤d.sec∧v= .slice A ks.length cap∧M=[Dk p d,Own 3 1 A ks.length cap (ks.map (Value.int .i64))]:=fun H hs=>by
 have hsec:=hok.sec;obtain⟨r1,r2,r3,hs⟩:=Dk.open hs;apply dZL.ok;unfold dZL;simp only[HS];refine hs.ld 0 rfl rfl ?_;simp only[HV];refine(pZg r3 H).mono ?_;rintro _ _ ⟨b,hb,rfl,rfl⟩;have hs:=hs.new hb (.obj (.cells #[.map (some r3)] 45));obtain⟨H1,⟨l,clock,hr1,hgk⟩,hle⟩:=hs.see 3 rfl;refine(nZs hgk (N:=d.sec) (by omega) (fun k hk=>hd k (by rw[iZk]at hk;exact hk)) _ (hle _ _ hr1) (hs.get 4 rfl)).mono ?_;rintro _ _ ⟨ks,hks,hkl,⟨h0,rfl,rfl⟩|⟨b',cap,rfl,hcap,hn,rfl⟩⟩
 ·simp only[HV];subst h0;refine⟨_,⟨[],.none,0,hks,hkl,rfl,rfl⟩,?_⟩;have hs2:Sep (Own 3 1 .none 0 0 []::[pts p (iZm d r1 r2 r3),Mp r1 (bZp d.safe),Mp r2 (hZY d.tch),Mp r3 (bZp d.cache)]) _:=⟨fun _=>none,_,fun _ _ h=>(nomatch h),Hp.le_refl _,fun _=>.inl rfl,Own.none _ _ _,hs.re [0,1,2,3] rfl⟩;exact Dk.shut (hs2.re [1,2,3,4,0] rfl)
 ·simp only[HV];have hs2:=hs.new hn (.row (ks.map (Value.int .i64)) 3 cap);have hs3:=hs2.turn 5 (B:=Own 3 1 (some ⟨b',0,none⟩) ks.length cap (ks.map (Value.int .i64))) rfl fun H1 hH=>⟨by simp,.inr ⟨b',cap,rfl,hH,by omega⟩⟩
  exact⟨_,⟨ks,some ⟨b',0,none⟩,cap,hks,hkl,rfl,rfl⟩,Dk.shut (hs3.re [0,1,2,3,5] rfl)⟩
theorem tZp {p:Nat}{d:D}:Tr Tryz.prog 68 #[.pointer (some ⟨p,7,none⟩)] [Dk p d] fun v M=>v= .tuple #[]∧M=[Dk p { d with down:=true,fuse:=0}]:=fun H hs=>by
 obtain⟨r1,r2,r3,hs⟩:=Dk.open hs;apply dZu.ok;unfold dZu;simp only[HS];refine hs.st 0 rfl (by show 7<10;omega) rfl fun H hs=>?_;refine hs.st 0 rfl (by show 8<10;omega) rfl fun H hs=>?_;exact⟨_,⟨trivial,rfl⟩,Dk.shut (d:={ d with down:=true,fuse:=0}) hs⟩
theorem pZA {p:Nat}{d:D}(n:Int):Tr Tryz.prog 31 #[.pointer (some ⟨p,7,none⟩),.int .i64 n] [Dk p d] fun v M=>v= .tuple #[]∧M=[Dk p { d with fuse:=n.toNat}]:=fun H hs=>by
 obtain⟨r1,r2,r3,hs⟩:=Dk.open hs;apply dZQ.ok;unfold dZQ;simp only[HS];rw[show(if(0:Int)>n then(0:Int)else n)=((n.toNat:Nat):Int) by split<;>omega];refine hs.st 0 rfl (by show 8<10;omega) rfl fun H hs=>?_;exact⟨_,⟨trivial,rfl⟩,Dk.shut (d:={ d with fuse:=n.toNat}) hs⟩
def eZZ (c:Int→Option (List UInt8)):(Int→Option (List UInt8))→List Int→List Bool→(Int→Option (List UInt8))
 |s,k::ks,b::bs=>eZZ c (if b then cZy s k ((c k).getD [])else s) ks bs
 |s,_,_=>s
def D.boot (d:D)(ks:List Int)(keep:List Bool):D:={ d with safe:=eZZ d.cache d.safe ks keep,cache:=fun _=>none,down:=false}
def bZ5 (l:List Bool):List Value:=l.map Value.bool
theorem mZH (c s:Int→Option (List UInt8))(ks:List Int):eZZ c s ks []=s:=by cases ks<;>rfl
theorem hZ1 (K:VK){p r1 r2 r3:Nat}{d:D}{A A4:OA}{n4 m n m4:Nat}{all:List Int}{keepAll:List Bool}{R:As}(hR:∀ H,R H→Cells H A (bZ5 keepAll))(hn:n=keepAll.length)(hn4:n4=all.length)(hn40:n4≤1048576)(hall:∀ k∈all,(d.cache k).isSome=true)(sF:Int→Option (List UInt8))
  (hK:∀ H,Sep [pts p (iZm { d with down:=false} r1 r2 r3),Mp r1 (bZp sF),Mp r2 (hZY d.tch),Mp r3 (bZp fun _=>none),Own 3 1 A4 n4 m4 (all.map (Value.int .i64)),R] H→K (.int .i64 0) H):
  ∀(ks:List Int) (j:Nat) (s:Int→Option (List UInt8)) (H:Hp),all.drop j=ks→j≤n4→eZZ d.cache s ks (keepAll.drop j)=sF→
   Sep [pts p (iZm d r1 r2 r3),Mp r1 (bZp s),Mp r2 (hZY d.tch),Mp r3 (bZp d.cache),Own 3 1 A4 n4 m4 (all.map (Value.int .i64)),R] H→
   aZp.l4 K (ks.length+1) (some ⟨p,0,none⟩) A n m A4 n4 m4 (n4:Int) (j:Int) H
 | [],j,s,H,hd,hj,hb,hs=>by
  have hjn:j=n4:=by
   have:=congrArg List.length hd;simp at this;omega
  subst hjn;unfold aZp.l4;refine Zh (by omega) ?_;simp only[HS];refine hs.ld 0 rfl rfl ?_;simp only[HV];refine hs.clearK hZw gZn 3 rfl fun H hs=>?_;refine hs.st 0 rfl (by show 7<10;omega) rfl fun H hs=>?_;have hb':s=sF:=hb;rw[hb']at hs;exact hK H hs
 |k::ks,j,s,H,hd,hj,hb,hs=>by
  have hjl:j<all.length:=by
   have:=congrArg List.length hd;simp at this;omega
  have hget:all[j]=k:=by
   have:=List.drop_eq_getElem_cons hjl;rw[this]at hd;exact(List.cons.inj hd).1
  have hrest:all.drop (j+1)=ks:=by
   have:=List.drop_eq_getElem_cons hjl;rw[this]at hd;exact(List.cons.inj hd).2
  have hkc:=hall k (by rw[← hget];exact List.getElem_mem _);unfold aZp.l4;refine Zn (by omega) ?_;refine(hs.own 4 rfl).rd1 (v:=.int .i64 k) rfl (by rw[List.getElem?_map,List.getElem?_eq_getElem hjl,hget];rfl) ?_;simp only[HV];by_cases hjk:j<n
  ·refine Zn (by omega) ?_;have hkl:j<keepAll.length:=by omega
   have hkd:keepAll.drop j=keepAll[j]::keepAll.drop (j+1):=List.drop_eq_getElem_cons hkl;rw[hkd]at hb;obtain⟨H1,hR1,hle⟩:=hs.see 5 (A:=R) rfl;refine((hR H1 hR1).le hle).read (v:=.bool keepAll[j]) (by unfold bZ5;rw[List.getElem?_map,List.getElem?_eq_getElem hkl];rfl) rfl (by unfold bZ5;rw[List.length_map];omega) ?_;simp only[HV];cases hbv:keepAll[j]with
   |true=>
    rw[hbv]at hb
    try simp only[HV]
    try simp only[HS]
    refine hs.ld 0 rfl rfl ?_;simp only[HV];refine hs.ld 0 rfl rfl ?_;simp only[HV];obtain⟨jz,hz1,hz2⟩:=rZo;obtain⟨H1,⟨l,clock,hr1,hgk⟩,hle⟩:=hs.see 3 rfl;refine mZj hZw gZn hz1 hz2 (hle _ _ hr1) false ?_;rw[hgk.get];cases hck:d.cache k with
    |none=>rw[hck]at hkc;cases hkc
    |some bs=>
     rw[show bZp d.cache k=some (jZS bs) by unfold bZp;rw[hck];rfl];show DS (.string ⟨bs.toArray⟩) _
     simp only[HV];refine hs.upd hZw gZn 1 rfl fun H hs=>?_;rw[show(Value.string ⟨bs.toArray⟩)=jZS bs from rfl,oZ7]at hs;rw[ZG (x:=(j:Int)+1) (by omega) (by omega)];refine hZ1 K hR hn hn4 hn40 hall sF hK ks (j+1) (cZy s k bs) H hrest (by omega) ?_ hs;rw[← hb];show _=eZZ d.cache (if true then cZy s k ((d.cache k).getD [])else s) ks _
     rw[hck];rfl
   |false=>
    rw[hbv]at hb
    try simp only[HV]
    rw[ZG (x:=(j:Int)+1) (by omega) (by omega)];exact hZ1 K hR hn hn4 hn40 hall sF hK ks (j+1) s H hrest (by omega) hb hs
  ·refine Zh (by omega) ?_;rw[ZG (x:=(j:Int)+1) (by omega) (by omega)];rw[List.drop_eq_nil_of_le (by omega),mZH]at hb;refine hZ1 K hR hn hn4 hn40 hall sF hK ks (j+1) s H hrest (by omega) ?_ hs;rw[List.drop_eq_nil_of_le (by omega),mZH];exact hb
theorem pZx {p:Nat}{d:D}(hok:Ok d)(hd:Dom d)(hdn:d.down=true)(A:OA)(n m:Nat)(keep:List Bool)(hn:n=keep.length)(R:As)(hR:∀ H,R H→Cells H A (bZ5 keep)):
  Tr Tryz.prog 33 #[.pointer (some ⟨p,0,none⟩),.slice A n m] [Dk p d,R] fun v M=>∃ ks,KeysOf (bZp d.cache) ks∧v= .int .i64 0∧M=[Dk p (D.boot d ks keep),R]:=fun H hs=>by
 have hsec:=hok.sec;obtain⟨r1,r2,r3,hp⟩:=Dk.see hs 0 rfl;apply aZp.ok;unfold aZp;simp only[HS];refine bZn hp (v:=.bool d.down) rfl ?_;rw[hdn];simp only[HV];refine(tZr hok hd).use hs [0] rfl rfl ?_;rintro _ _ H ⟨ks,A4,cap,hks,hkl,rfl,rfl⟩ hs;simp only[HV];obtain⟨r1,r2,r3,hs⟩:=Dk.open hs;refine⟨ks.length+1,?_⟩;refine hZ1 _ (d:=d) (A4:=A4) (m4:=cap) (all:=ks) (keepAll:=keep) (R:=R) hR hn rfl (by omega) (fun k hk=>by have:=(hks.mem k).1 hk;rw[iZk]at this;exact this) (eZZ d.cache d.safe ks keep) (fun H hs=>⟨_,⟨ks,hks,rfl,rfl⟩,?_⟩) ks 0 d.safe H rfl (Nat.zero_le _) rfl hs;exact Dk.shut (d:=D.boot d ks keep) (hs.re [0,1,2,3,5] rfl)
end Go.Proofs.YtgfildcgihbdaaaGreatDoor.Dsk
namespace Go.Proofs.YtgfildcgihbdaaaGreatDoor.Dsk
open Go Go.Hw Go.Form W
theorem kZH {c:Int→Option (List UInt8)}:∀(ks:List Int) (bs:List Bool) (s:Int→Option (List UInt8)),(∀ k∈ks,(c k).isSome=true)→∀ i,eZZ c s ks bs i=s i∨((c i).isSome=true∧eZZ c s ks bs i=c i)
 | [],bs,s,_,i=>.inl rfl
 |k::ks,[],s,_,i=>.inl rfl
 |k::ks,b::bs,s,hk,i=>by
  have ih:=kZH ks bs (if b then cZy s k ((c k).getD [])else s) (fun k hm=>hk k (by simp[hm])) i;show eZZ c (if b then cZy s k ((c k).getD [])else s) ks bs i=s i∨_∧eZZ c (if b then cZy s k ((c k).getD [])else s) ks bs i=c i
  rcases ih with h|h
  ·rw[h];cases b with
   |false=>exact .inl rfl
   |true=>
    by_cases e:i=k
    ·subst e;refine .inr ⟨hk i (by simp),?_⟩;have:=hk i (by simp);cases hc:c i with
     |none=>rw[hc]at this;cases this
     |some x=>simp[cZy]
    ·exact .inl (by simp[cZy,e])
  ·exact .inr h
theorem Ok.writeD {d:D}(h:Ok d)(i:Int)(bs:List UInt8):Ok (d.writeD i bs):=by
 unfold D.writeD;split
 ·exact h
 ·split
  ·exact h
  ·rename_i hl
   have hb:=Ok.burnt h;split
   ·exact hb
   ·unfold D.wrote;refine⟨hb.sec,hb.size,hb.big,hb.per,hb.safe,fun k b hk=>?_,hb.fz⟩;have hk':(if k=i then some bs else d.cache k)=some b:=hk;have hsz:d.burnt.size=d.size:=(bZ6 d).2.2.2.1;split at hk'
    ·cases hk';show bs.length=d.burnt.size;rw[hsz];omega
    ·show b.length=d.burnt.size;rw[hsz];exact h.cache k b hk'
theorem Dom.writeD {d:D}(h:Dom d)(i:Int)(bs:List UInt8):Dom (d.writeD i bs):=by
 have hbr:=bZ6 d;unfold D.writeD;split
 ·exact h
 ·rename_i hc
  split
  ·exact h
  ·split
   ·intro k hk;rw[hbr.2.2.2.2.2.2.1]at hk;rw[hbr.2.2.2.2.1];exact h k hk
   ·intro k hk;have hk':(if k=i then some bs else d.cache k).isSome=true:=hk;show 0≤k∧k<(d.burnt.sec:Int)
    rw[hbr.2.2.2.2.1];split at hk'
    ·rename_i e;subst e
     have:=rZR (d:=d) (i:=k) (by simpa using hc);omega
    ·exact h k hk'
theorem Ok.fused {d:D}(h:Ok d)(n:Nat)(hn:n≤9223372036854775807):Ok { d with fuse:=n}:=⟨h.sec,h.size,h.big,h.per,h.safe,h.cache,hn⟩
theorem Ok.boot {d:D}(h:Ok d){ks:List Int}(hk:KeysOf (bZp d.cache) ks)(keep:List Bool):Ok (D.boot d ks keep):=by
 refine⟨h.sec,h.size,h.big,h.per,fun k b hb=>?_,fun k b hb=>(by cases hb),h.fz⟩;have hb':eZZ d.cache d.safe ks keep k=some b:=hb;rcases kZH ks keep d.safe (fun k hm=>by have:=(hk.mem k).1 hm;rw[iZk]at this;exact this) k with e|⟨_,e⟩
 ·rw[e]at hb';exact h.safe k b hb'
 ·rw[e]at hb';exact h.cache k b hb'
end Go.Proofs.YtgfildcgihbdaaaGreatDoor.Dsk
namespace Go.Proofs.YtgfildcgihbdaaaGreatDoor.Dsk
open Go Go.Hw Go.Form W
def eZr (s c:Int→Option (List UInt8)):Int→Option (List UInt8):=fun i=>match c i with|some b=>some b|none=>s i
theorem born_inj {l:List (Int×Value×Nat)}(h:(l.map (·.2.2)).Nodup){x y:Int×Value×Nat}(hx:x∈l)(hy:y∈l)(e:x.2.2=y.2.2):x=y:=by
 induction l with
 |nil=>simp at hx
 |cons z l ih=>
  simp only[List.map_cons,List.nodup_cons]at h;rcases List.mem_cons.1 hx with ex|hx'
  ·rcases List.mem_cons.1 hy with ey|hy'
   ·rw[ex,ey]
   ·exact absurd (by rw[← ex,e];exact List.mem_map_of_mem hy') h.1
  ·rcases List.mem_cons.1 hy with ey|hy'
   ·exact absurd (by rw[← ey,←e];exact List.mem_map_of_mem hx') h.1
   ·exact ih h.2 hx' hy'
theorem qZQ (K:VK){r1 r2 it cl:Nat}{c s:Int→Option (List UInt8)}{l:List (Int×Value×Nat)}(hok:OkK l cl (bZp c))
  (hK:∀ H,Sep [Mp r1 (bZp (eZr s c)),pts r2 (cZ1 l cl)] H→K (.tuple #[]) H):
  ∀(t:Nat) (sj:Int→Option (List UInt8)) (seen:Array Nat) (last:Nat) (H:Hp),(bZN l seen).length≤t→(∀ x∈l,x.2.2<last)→(∀ i,(∀ x∈bZN l seen,x.1≠i)→sj i=eZr s c i)→
   Sep [Mp r1 (bZp sj),pts r2 (cZ1 l cl),pts it (eZh r2 cl seen last)] H→Zo.l1 K (t+1) (some r1) (.pointer (some ⟨it,0,none⟩)) H:=fun t=>by
 induction t with
 |zero=>
  intro sj seen last H ht hlast hsj hs;unfold Zo.l1;have h0:bZN l seen=[]:=List.length_eq_zero_iff.1 (by omega);refine sZu (hs.get 2 rfl) (hs.get 1 rfl) hok.bl hlast (fun x hx=>by rw[h0]at hx;simp at hx) (fun _=>?_);simp only[Ex,List.getElem?_toArray,List.getElem?_cons_zero,jZZ,jZh];refine hK H ?_;have:sj=eZr s c:=funext fun i=>hsj i (fun x hx=>by rw[h0]at hx;simp at hx)
  rw[← this];exact hs.re [0,1] rfl
 |succ t ih=>
  intro sj seen last H ht hlast hsj hs;unfold Zo.l1;refine sZu (hs.get 2 rfl) (hs.get 1 rfl) hok.bl hlast (fun x hx=>?_) (fun h0=>?_)
  ·simp only[Ex,List.getElem?_toArray,List.getElem?_cons_zero,jZZ,nZW];have hxl:x∈l:=(List.mem_filter.1 hx).1;have hs:=hs.put 2 (eZh r2 cl (seen.push x.2.2) cl) rfl;refine vZu (hs.get 2 rfl) (hs.get 1 rfl) hxl (by simp) hok.bn ?_;simp only[Ex,List.getElem?_toArray,List.getElem?_cons_zero,List.getElem?_cons_succ];have hg:bZp c x.1=some x.2.1:=by rw[← hok.get,kZP hok.nd hxl]
   obtain⟨b,hcb,hxb⟩:∃ b,c x.1=some b∧x.2.1=jZS b:=by
    unfold bZp at hg;cases hc:c x.1 with
    |none=>rw[hc]at hg;cases hg
    |some b=>rw[hc]at hg;exact⟨b,rfl,(Option.some.inj hg).symm⟩
   rw[hxb];show DI .i64 (.int .i64 x.1) fun x1=>DS (.string ⟨b.toArray⟩) _
   simp only[HV];refine hs.upd hZw gZn 0 rfl fun H hs=>?_;rw[show(Value.string ⟨b.toArray⟩)=jZS b from rfl,oZ7]at hs;have hlt:=rZk hx;refine ih (cZy sj x.1 b) (seen.push x.2.2) cl H (by omega) hok.bl (fun i hi=>?_) hs;by_cases e:i=x.1
   ·subst e;unfold eZr cZy;rw[hcb];simp
   ·unfold cZy;rw[if_neg e];refine hsj i fun y hy ey=>?_
    obtain⟨hyl,hys⟩:=List.mem_filter.1 hy;have hne:y.2.2≠x.2.2:=fun e2=>e (by rw[← ey,born_inj hok.bn hyl hxl e2])
    refine hi y (List.mem_filter.2 ⟨hyl,?_⟩) ey;rw[Array.contains_push];simp only[Bool.not_eq_true',Bool.or_eq_false_iff]at hys⊢;exact⟨hys,by simpa using hne⟩
  ·simp only[Ex,List.getElem?_toArray,List.getElem?_cons_zero,jZZ,jZh];refine hK H ?_;have:sj=eZr s c:=funext fun i=>hsj i (fun x hx=>by rw[h0]at hx;simp at hx)
   rw[← this];exact hs.re [0,1] rfl
theorem tZX (r1 r2:Nat)(s c:Int→Option (List UInt8)):Tr Tryz.prog 76 #[.map (some r1),.map (some r2)] [Mp r1 (bZp s),Mp r2 (bZp c)] fun v M=>
  v= .tuple #[]∧M=[Mp r1 (bZp (eZr s c)),Mp r2 (bZp c)]:=fun H hs=>by
 have hs0:=hs;obtain⟨H1,⟨l,clock,hr1,hok⟩,hle⟩:=hs.see 1 rfl;apply Zo.ok;unfold Zo;refine vZS gZn (hle _ _ hr1) fun it hit=>?_
 have hs1:Sep [Mp r1 (bZp s),pts r2 (cZ1 l clock)] H:=hs.turn' 1 rfl fun H2 hle2 hA=>by
  obtain⟨l2,clock2,h2,_⟩:=hA;have e1:=hle2 _ _ h2;have e2:=hle _ _ hr1;rw[e1]at e2;show H2 r2=some (cZ1 l clock)
  rw[h2,e2]
 have hs2:=hs1.new hit (eZh r2 clock #[] clock);refine⟨l.length+1,?_⟩;refine qZQ _ (s:=s) hok (fun H hs=>⟨_,⟨rfl,rfl⟩,hs.turn 1 rfl fun H2 hA=>⟨l,clock,hA,hok⟩⟩) l.length s #[] clock _ ?_ hok.bl (fun i hi=>?_) hs2
 ·unfold bZN;exact List.length_filter_le _ _
 ·unfold eZr;have hn:c i=none:=by
   have:cZx l i=none:=mZU.2 fun x hx=>hi x (by unfold bZN;simp[hx])
   rw[hok.get]at this;unfold bZp at this;cases hc:c i with
   |none=>rfl
   |some b=>rw[hc]at this;cases this
  rw[hn]
def D.synced (d:D):D:={ d.burnt with sy:=d.sy+1,safe:=eZr d.safe d.cache,cache:=fun _=>none}
def D.syncE (d:D):Int:=if d.down then 8 else if d.burns then 8 else 0
def D.syncD (d:D):D:=if d.down then d else if d.burns then d.burnt else d.synced
theorem hZz {p:Nat}{d:D}(hok:Ok d)(ho:d.sy≤4611686018427387904):Tr Tryz.prog 47 #[.pointer (some ⟨p,0,none⟩)] [Dk p d] fun v M=>v= .int .i64 d.syncE∧M=[Dk p d.syncD]:=fun H hs=>by
 have hf:=hok.fz;obtain⟨r1,r2,r3,hp⟩:=Dk.see hs 0 rfl;apply eZa.ok;unfold eZa;simp only[HS];refine bZn hp (v:=.bool d.down) rfl ?_;simp only[HV];cases hdn:d.down with
 |true=>exact aZx rfl ⟨_,⟨by simp[D.syncE,hdn],by simp[D.syncD,hdn]⟩,hs⟩
 |false=>
  refine aZc rfl ?_;refine(kZI hf).use hs [0] rfl rfl ?_;rintro _ _ H ⟨rfl,rfl⟩ hs;simp only[HV];cases hb:d.burns with
  |true=>exact aZx rfl ⟨_,⟨by simp[D.syncE,hdn,hb],by simp[D.syncD,hdn,hb];rfl⟩,hs⟩
  |false=>
   refine aZc rfl ?_;have hbr:=bZ6 d;obtain⟨r1,r2,r3,hs⟩:=Dk.open hs
   try simp only[HS]
   refine hs.ld 0 rfl rfl ?_;simp only[HV];refine hs.st 0 rfl (by show 5<10;omega) rfl fun H hs=>?_;rw[hbr.2.2.1]at hs;rw[ZG (x:=(d.sy:Int)+1) (by omega) (by omega)]at hs;refine hs.ld 0 rfl rfl ?_;simp only[HV];refine hs.ld 0 rfl rfl ?_;simp only[HV];rw[hbr.2.2.2.2.2.1,hbr.2.2.2.2.2.2.1]at hs;refine(tZX r1 r3 d.safe d.cache).use hs [1,3] rfl rfl ?_;rintro _ _ H ⟨rfl,rfl⟩ hs
   try simp only[HV]
   refine hs.ld 2 rfl rfl ?_;simp only[HV];refine hs.clearK hZw gZn 1 rfl fun H hs=>?_;refine⟨_,⟨by simp[D.syncE,hdn,hb],by simp[D.syncD,hdn,hb];rfl⟩,?_⟩;exact Dk.shut (d:=d.synced) (r1:=r1) (r2:=r2) (r3:=r3) (hs.re [2,0,3,1] rfl)
end Go.Proofs.YtgfildcgihbdaaaGreatDoor.Dsk
namespace Go.Proofs.YtgfildcgihbdaaaGreatDoor.Dsk
open Go Go.Hw Go.Form W
theorem cZu.rdA {s:Nat}{H:Hp}{A:OA}{rows:List (List Value)}(h:cZu s H A rows){i:Nat}{r:List Value}(hi:rows[i]? =some r)(hr:r.length=s){x:Int}(hx:x=i){n:Nat}(hn:rows.length≤n){K:List Value→Prop}(k:K r):
  ixI x n (NN A fun a=>LdA H (a.add (x.toNat*s)) s K):=by
 obtain⟨a,rfl,hc⟩:=h i r hi;subst hx;have:=(List.getElem?_eq_some_iff.1 hi).1;refine⟨by omega,by omega,?_⟩;rw[Int.toNat_natCast];have hcells:Cells H (some (a.add (i*s))) r:=fun j v hj=>⟨_,rfl,by rw[add_add];exact hc j v hj⟩
 have:=hcells.cells?;rw[hr]at this;show LdA H (a.add (i*s)) s K
 unfold LdA;rw[this];exact k
structure Act where
 k:Int
 i:Int
 A:OA
 n:Nat
 m:Nat
 b:List UInt8
 A':OA
 n':Nat
 m':Nat
 ks:List Bool
def laidB (bs:List UInt8):List UInt8:=bs.take 32++List.replicate (32-bs.length) 0
theorem sZh (bs:List UInt8):(laidB bs).length=32:=by
 unfold laidB;rw[List.length_append,List.length_take,List.length_replicate];omega
end Go.Proofs.YtgfildcgihbdaaaGreatDoor.Dsk
namespace Go.Proofs.YtgfildcgihbdaaaGreatDoor.Dsk
open Go Go.Hw Go.Form W
structure Calm (d:D):Prop where
 down:d.down=false
 fuse:d.fuse=0
structure Next (d d':D):Prop where
 ok:Ok d'
 dom:Dom d'
 sec:d'.sec=d.sec
 size:d'.size=d.size
 rd:d'.rd≤d.rd+1
 wr:d'.wr≤d.wr+1
 sy:d'.sy≤d.sy+1
section
variable {d : D} (h : Ok d) (hd : Dom d)
include h hd
theorem Next.refl :Next d d:=⟨h,hd,rfl,rfl,by omega,by omega,by omega⟩
theorem Next.burnt :Next d d.burnt:=by
 have hb:=bZ6 d;refine⟨Ok.burnt h,fun k hk=>?_,hb.2.2.2.2.1,hb.2.2.2.1,by rw[hb.1];omega,by rw[hb.2.1];omega,by rw[hb.2.2.1];omega⟩;rw[hb.2.2.2.2.2.2.1]at hk;rw[hb.2.2.2.2.1];exact hd k hk
theorem Next.read :Next d { d.burnt with rd:=d.rd+1}:=by
 have hb:=Next.burnt h hd;exact⟨⟨hb.ok.sec,hb.ok.size,hb.ok.big,hb.ok.per,hb.ok.safe,hb.ok.cache,hb.ok.fz⟩,hb.dom,hb.sec,hb.size,Nat.le_refl _,hb.wr,hb.sy⟩
theorem Next.write (i:Int)(bs:List UInt8):Next d (d.writeD i bs):=by
 have hb:=bZ6 d;have h1:=Ok.writeD h i bs;have h2:=Dom.writeD hd i bs;have hn:=Next.burnt h hd;unfold D.writeD at h1 h2⊢;split
 ·exact Next.refl h hd
 ·rename_i c1
  rw[if_neg c1]at h1 h2;split
  ·exact Next.refl h hd
  ·rename_i c2
   rw[if_neg c2]at h1 h2;split
   ·exact hn
   ·rename_i c3
    rw[if_neg c3]at h1 h2;exact⟨h1,h2,hn.sec,hn.size,hn.rd,Nat.le_refl _,hn.sy⟩
theorem Next.sync :Next d d.syncD:=by
 have hn:=Next.burnt h hd;have hb:=bZ6 d;unfold D.syncD;split
 ·exact Next.refl h hd
 ·split
  ·exact hn
  ·refine⟨⟨hn.ok.sec,hn.ok.size,hn.ok.big,hn.ok.per,fun k b hk=>?_,fun k b hk=>(by cases hk),hn.ok.fz⟩,fun k hk=>(by cases hk),hn.sec,hn.size,hn.rd,hn.wr,Nat.le_refl _⟩;have hk':eZr d.safe d.cache k=some b:=hk;show b.length=d.burnt.size
   rw[hb.2.2.2.1];unfold eZr at hk';split at hk'
   ·rename_i b' hc;cases hk';exact h.cache k b hc
   ·exact h.safe k b hk'
end
def Eff (d d':D)(a:Act)(e:Int):Prop:=Calm d→a.k≤2→Calm d'∧d'.safe=d.safe∧
 ((0≤a.k∧a.k≤1∧e=0)→(0≤a.i∧a.i<d.sec)∧d'.cache=cZy d.cache a.i (laidB a.b))∧(¬ (0≤a.k∧a.k≤1∧e=0)→d'.cache=d.cache)
theorem Calm.burns {d:D}(h:Calm d):d.burns=false:=by unfold D.burns;rw[h.fuse];rfl
theorem Calm.burnt {d:D}(h:Calm d):d.burnt=d:=by unfold D.burnt;rw[if_pos h.fuse]
theorem Eff.same {d:D}{a:Act}{e:Int}(h:¬(0≤a.k∧a.k≤1∧e=0)):Eff d d a e:=fun hc _=>⟨hc,rfl,fun h'=>absurd h' h,fun _=>rfl⟩
theorem Eff.write {d:D}{a:Act}(hz:d.size=32)(hk:0≤a.k∧a.k≤1):Eff d (d.writeD a.i (laidB a.b)) a (d.writeE a.i 32):=fun hc _=>by
 have hl:=sZh a.b;by_cases h0:d.chk a.i=0
 ·have e1:d.writeE a.i 32=0:=by
   unfold D.writeE;rw[if_neg (by rw[h0];simp),if_neg (by omega),hc.burns];rfl
  have e2:d.writeD a.i (laidB a.b)=d.wrote a.i (laidB a.b):=by
   unfold D.writeD;rw[if_neg (by rw[h0];simp),if_neg (by omega),hc.burns];rfl
  rw[e1,e2];have hb:=hc.burnt;have hr:=rZR h0;unfold D.wrote;rw[hb];exact⟨⟨hc.down,hc.fuse⟩,rfl,fun _=>⟨⟨hr.1,hr.2.1⟩,rfl⟩,fun h=>absurd ⟨hk.1,hk.2,rfl⟩ h⟩
 ·have e1:d.writeE a.i 32=d.chk a.i:=by unfold D.writeE;rw[if_pos h0]
  have e2:d.writeD a.i (laidB a.b)=d:=by unfold D.writeD;rw[if_pos h0]
  rw[e1,e2];exact⟨hc,rfl,fun h=>absurd h.2.2 h0,fun _=>rfl⟩
theorem Eff.read {d:D}{a:Act}{e:Int}(hk:a.k=2):Eff d { d.burnt with rd:=d.rd+1} a e:=fun hc _=>by
 rw[hc.burnt];exact⟨⟨hc.down,hc.fuse⟩,rfl,fun h=>by omega,fun _=>rfl⟩
end Go.Proofs.YtgfildcgihbdaaaGreatDoor.Dsk
namespace Go.Proofs.YtgfildcgihbdaaaGreatDoor.Eng
open Go Go.Hw Go.Form Dsk Str
abbrev Cn :=Int→List UInt8
structure Clean (d:D)(c:Cn):Prop where
 ok:Ok d
 down:d.down=false
 cache:∀ i,d.cache i=none
 sat:∀ i,d.sat i=c i
theorem Clean.now {d:D}{c:Cn}(h:Clean d c)(i:Int):d.now i=c i:=by
 unfold D.now;rw[h.cache];exact h.sat i
theorem Clean.dom {d:D}{c:Cn}(h:Clean d c):Dom d:=fun k hk=>by rw[h.cache]at hk;cases hk
structure bZA (d d':D)(r w s:Nat):Prop where
 fuse:d'.fuse=d.fuse-(r+w+s)
 go:d.fuse=0∨r+w+s<d.fuse
 sec:d'.sec=d.sec
 size:d'.size=d.size
 rd:d'.rd=d.rd+r
 wr:d'.wr=d.wr+w
 sy:d'.sy=d.sy+s
structure Cut (d d':D)(n:Nat):Prop where
 ok:Ok d'
 dom:Dom d'
 down:d'.down=true
 fuse:d'.fuse=0
 sec:d'.sec=d.sec
 size:d'.size=d.size
 cnt:d'.rd+d'.wr+d'.sy+1=d.rd+d.wr+d.sy+d.fuse
 rd:d.rd≤d'.rd
 wr:d.wr≤d'.wr
 sy:d.sy≤d'.sy
 le:d.fuse≤n
 pos:1≤d.fuse
def Left (d:D)(P:Cn→Prop):Prop:=∀ c':Cn,(∀ i,c' i=d.sat i∨c' i=d.now i)→P c'
theorem Left.mono {d:D}{P Q:Cn→Prop}(h:Left d P)(k:∀ c,P c→Q c):Left d Q:=fun c' hc=>k _ (h c' hc)
theorem bZA.trans {d d1 d2:D}{r w s r' w' s':Nat}(h:bZA d d1 r w s)(k:bZA d1 d2 r' w' s'):bZA d d2 (r+r') (w+w') (s+s'):=by
 have h1:=h.fuse;have h2:=k.fuse;have h3:=h.go;have h4:=k.go;have h5:=h.rd;have h6:=k.rd;have h7:=h.wr;have h8:=k.wr;have h9:=h.sy;have h10:=k.sy;exact⟨by omega,by omega,k.sec.trans h.sec,k.size.trans h.size,by omega,by omega,by omega⟩
theorem bZA.cut {d d1 d2:D}{r w s n:Nat}(h:bZA d d1 r w s)(k:Cut d1 d2 n):Cut d d2 (r+w+s+n):=by
 have h1:=h.fuse;have h3:=h.go;have h4:=k.pos;have h5:=h.rd;have h6:=k.rd;have h7:=h.wr;have h8:=k.wr;have h9:=h.sy;have h10:=k.sy;have h11:=k.cnt;have h12:=k.le;exact⟨k.ok,k.dom,k.down,k.fuse,k.sec.trans h.sec,k.size.trans h.size,by omega,by omega,by omega,by omega,by omega,by omega⟩
theorem Cut.more {d d':D}{n m:Nat}(h:Cut d d' n)(k:n≤m):Cut d d' m:={ h with le:=Nat.le_trans h.le k}
theorem bZA.per {d d':D}{r w s:Nat}(h:bZA d d' r w s):D.per d'=D.per d:=by unfold D.per;rw[h.size]
theorem bZA.calm {d d':D}{r w s:Nat}(h:bZA d d' r w s)(hf:d.fuse=0):d'.fuse=0:=by rw[h.fuse];omega
theorem Cut.calm {d d':D}{n:Nat}(h:Cut d d' n)(hf:d.fuse=0):False:=by have:=h.pos;omega
def Sam (S:Int→Prop)(c c':Cn):Prop:=∀ i,¬S i→c' i=c i
theorem Clean.rdG {d:D}{c:Cn}(h:Clean d c)(t:Nat):Clean (D.rdG d t) c:=⟨Ok.rdG h.ok t,h.down,h.cache,h.sat⟩
theorem bZA.rdG {d:D}{t:Nat}(hf:d.fuse=0∨t<d.fuse):bZA d (D.rdG d t) t 0 0:=⟨by show d.fuse-t=_;omega,by omega,rfl,rfl,rfl,rfl,rfl⟩
theorem Cut.rdG {d:D}{c:Cn}(h:Clean d c){j n:Nat}(hf:d.fuse=j+1)(hn:j<n):Cut d (D.dead (D.rdG d j)) n:=by
 refine⟨Ok.dead (Ok.rdG h.ok j),h.dom,rfl,rfl,rfl,rfl,?_,?_,Nat.le_refl _,Nat.le_refl _,by omega,by omega⟩
 ·show d.rd+j+d.wr+d.sy+1=_;omega
 ·show d.rd≤d.rd+j;omega
theorem Left.rdG {d:D}{c:Cn}(h:Clean d c)(j:Nat):Left (D.dead (D.rdG d j)) fun c'=>c'=c:=fun c' hc=>funext fun i=>by
 rcases hc i with e|e
 ·exact e.trans (h.sat i)
 ·exact e.trans (h.now i)
section
variable {S : Int → Prop} {d d1 : D} {c : Cn} {r w : Nat}
theorem Clean.prog (h:Clean d c)(p:Prog S d d1 r w)(i:Int):d1.sat i=c i∧(¬S i→d1.now i=c i):=by
 have e1:d1.sat i=c i:=by rw[← h.sat];unfold D.sat;rw[p.safe,p.size]
 refine⟨e1,fun hi=>?_⟩;unfold D.now;rw[p.cache i hi,h.cache];exact e1
theorem Clean.dead (h:Clean d c)(p:cZr S d d1)(i:Int):d1.sat i=c i∧(¬S i→d1.now i=c i):=by
 have e1:d1.sat i=c i:=by rw[← h.sat];unfold D.sat;rw[p.safe,p.size]
 refine⟨e1,fun hi=>?_⟩;unfold D.now;rw[p.cache i hi,h.cache];exact e1
theorem Clean.progDom (h:Clean d c)(p:Prog S d d1 r w)(hS:∀ i,S i→0≤i∧i<d.sec):Dom d1:=fun k hk=>by
 by_cases hs:S k
 ·have:=hS k hs;rw[p.sec];exact this
 ·rw[p.cache k hs,h.cache]at hk;cases hk
theorem Clean.deadCut (h:Clean d c)(p:cZr S d d1)(hS:∀ i,S i→0≤i∧i<d.sec){n:Nat}(hn:d.fuse≤n)(hf:1≤d.fuse):Cut d d1 n:=by
 have h1:=p.cnt;have h2:=p.sy;refine⟨p.ok,fun k hk=>?_,p.down,p.fuse,p.sec,p.size,by omega,p.rd,p.wr,by omega,hn,hf⟩;by_cases hs:S k
 ·have:=hS k hs;rw[p.sec];exact this
 ·rw[p.cache k hs,h.cache]at hk;cases hk
theorem Clean.deadLeft (h:Clean d c)(p:cZr S d d1):Left d1 fun c'=>Sam S c c':=fun c' hc i hi=>by
 obtain⟨h1,h2⟩:=h.dead p i;rcases hc i with e|e
 ·exact e.trans h1
 ·exact e.trans (h2 hi)
theorem Clean.sync (h:Clean d c)(p:Prog S d d1 r w)(hS:∀ i,S i→0≤i∧i<d.sec):
  (d1.syncE=0∧bZA d d1.syncD r w 1∧Clean d1.syncD d1.now)∨(d1.syncE=8∧Cut d d1.syncD (r+w+1)∧Left d1.syncD fun c'=>(∀ i,c' i=c i∨c' i=d1.now i)∧Sam S c c'):=by
 have hdom:=h.progDom p hS;have hn:=Next.sync p.ok hdom;have hb:=bZ6 d1;have p1:=p.fuse;have p2:=p.go;have p3:=p.rd;have p4:=p.wr;have p5:=p.sy;have hdn:¬d1.down=true:=by rw[p.down];simp
 by_cases hf:d1.fuse=1
 ·right;have eE:d1.syncE=8:=by unfold D.syncE D.burns;rw[if_neg hdn,if_pos (by simp[hf])]
  have eD:d1.syncD=D.dead d1:=by
   unfold D.syncD D.burns;rw[if_neg hdn,if_pos (by simp[hf]),eZI hf]
  rw[eE,eD];refine⟨rfl,⟨Ok.dead p.ok,hdom,rfl,rfl,p.sec,p.size,?_,?_,?_,?_,by omega,by omega⟩,fun c' hc=>⟨fun i=>?_,fun i hi=>?_⟩⟩
  ·show d1.rd+d1.wr+d1.sy+1=_;omega
  ·show d.rd≤d1.rd;omega
  ·show d.wr≤d1.wr;omega
  ·show d.sy≤d1.sy;omega
  ·rcases hc i with e|e
   ·exact .inl (e.trans (h.prog p i).1)
   ·exact .inr e
  ·rcases hc i with e|e
   ·exact e.trans (h.prog p i).1
   ·exact e.trans ((h.prog p i).2 hi)
 ·left;have hbn:d1.burns=false:=by unfold D.burns;exact decide_eq_false hf
  have hbt:=eZf p.down hf;have eE:d1.syncE=0:=by unfold D.syncE;rw[hbn,p.down];rfl
  have eD:d1.syncD=d1.synced:=by unfold D.syncD;rw[hbn,p.down];rfl
  rw[eD]at hn⊢;refine⟨eE,⟨?_,by omega,(hn.sec).trans p.sec,(hn.size).trans p.size,?_,?_,?_⟩,⟨hn.ok,?_,fun i=>rfl,fun i=>?_⟩⟩
  ·show d1.burnt.fuse=_;rw[hbt];show d1.fuse-1=_;omega
  ·show d1.burnt.rd=_;rw[hb.1];omega
  ·show d1.burnt.wr=_;rw[hb.2.1];omega
  ·show d1.sy+1=_;omega
  ·show d1.burnt.down=false;rw[hbt];exact p.down
  ·show(eZr d1.safe d1.cache i).getD (List.replicate d1.burnt.size 0)=_
   rw[hb.2.2.2.1];unfold D.now D.sat eZr;cases d1.cache i<;>rfl
end
theorem Left.boot {d:D}{P:Cn→Prop}(h:Left d P)(hok:Ok d){ks:List Int}(hk:KeysOf (bZp d.cache) ks)(keep:List Bool):∃ c',P c'∧Clean (D.boot d ks keep) c':=by
 refine⟨(D.boot d ks keep).sat,h _ fun i=>?_,⟨Ok.boot hok hk keep,rfl,fun _=>rfl,fun _=>rfl⟩⟩;have hmem:∀ k∈ks,(d.cache k).isSome=true:=fun k hk'=>by
  have:=(hk.mem k).1 hk';rw[iZk]at this;exact this
 show(eZZ d.cache d.safe ks keep i).getD (List.replicate d.size 0)=_∨_
 rcases kZH ks keep d.safe hmem i with e|⟨e1,e2⟩
 ·left;rw[e];rfl
 ·right;show(eZZ d.cache d.safe ks keep i).getD (List.replicate d.size 0)=_
  rw[e2];unfold D.now;cases hc:d.cache i with
  |none=>rw[hc]at e1;cases e1
  |some b=>rfl
theorem Clean.crash {d:D}{c:Cn}(h:Clean d c):Left { d with down:=true,fuse:=0} fun c'=>c'=c:=fun c' hc=>funext fun i=>by
 rcases hc i with e|e
 ·exact e.trans (h.sat i)
 ·exact e.trans (h.now i)
theorem Clean.fused {d:D}{c:Cn}(h:Clean d c)(n:Nat)(hn:n≤9223372036854775807):Clean { d with fuse:=n} c:=⟨Ok.fused h.ok n hn,h.down,h.cache,h.sat⟩
theorem Clean.fresh {sec size:Nat}(h1:1≤sec∧sec≤1048576)(h2:0<Lay.ZD size)(h3:sec*size≤67108864):Clean (D.fresh sec size) fun _=>List.replicate size 0:=
 ⟨Ok.fresh h1 h2 h3,rfl,fun _=>rfl,fun _=>rfl⟩
end Go.Proofs.YtgfildcgihbdaaaGreatDoor.Eng
namespace Go.Hw
open Go
theorem tZh {P:Program}{e:TypeId}{s x:Value}{H:Hp}{K:VK}(h:cZ8 P e s x H fun v H'=>(∀ A n m,v= .slice A n m→n≤m)→K v H'):cZ8 P e s x H K:=by
 unfold cZ8 at h⊢;split at h
 ·split at h
  ·obtain⟨n,ys,h1,h2,h3,h4,h5,h6,h7,h8,h9⟩:=h;refine⟨n,ys,h1,h2,h3,h4,h5,h6,h7,h8,h9.imp ?_ ?_⟩
   ·rintro⟨e1,e2,e3,k0,k⟩;refine⟨e1,e2,e3,fun h0=>k0 h0 (fun A n m e=>by cases e;exact Nat.le_refl _),fun hp c hc b hb=>k hp c hc b hb (fun A n m e=>by cases e;exact hc)⟩
   ·rintro⟨b0,xs,m,e1,e2,e3,e4,k⟩;exact⟨b0,xs,m,e1,e2,e3,e4,fun c m' hc hl b hb=>k c m' hc hl b hb (fun A n m e=>by cases e;exact hl)⟩
  ·exact h
 ·exact h
theorem rZC {P:Program}{e:TypeId}{s:Value}{x:Nat→Value}{H:Hp}{o:AO}{K:VK}(h:Nw H o fun b H'=>cZ8 P e s (x b) H' fun v H'=>(∀ A n m,v= .slice A n m→n≤m)→K v H'):Nw H o fun b H'=>cZ8 P e s (x b) H' K:=fun b hb=>tZh (h b hb)
end Go.Hw
namespace Go.Proofs.YtgfildcgihbdaaaGreatDoor.W
open Go Go.Hw
theorem bZB :Tryz.prog.follows .mixedOrders=true:=by kernel_rfl
def dZW (y1:Array Value)(x1:Int)(H:Hp)(K:VK):Prop:=
 Nw H (.obj (.cells y1 102)) fun b1 H1=>LdA H1 ⟨b1,0,none⟩ 8 fun l1=>HcB 151 #[.agg l1.toArray] H1 fun c1 H2=>BIf (!c1) (K (.tuple #[.slice none 0 0,.int .i64 1]) H2) (HcB 152 #[.int .i64 x1] H2 fun c2 H3=>BIf (!c2) (K (.tuple #[.slice none 0 0,.int .i64 1]) H3) (LdA H3 ⟨b1,0,none⟩ 8 fun l2=>HcS 153 #[.agg l2.toArray] H3 fun A1 n1 m1 H4=>MkS Tryz.prog 5 x1 x1 H4 fun v4 H5=>DSl v4 fun A2 n2 m2=>HcW 154 #[.slice A1 n1 m1] H5 fun x2 H6=>Nw H6 (.row [.int .u64 x2] 82 1) fun b2 H7=>cZ8 Tryz.prog 82 (.slice A1 n1 m1) (.slice (some ⟨b2,0,none⟩) 1 1) H7 fun v6 H8=>DSl v6 fun A3 n3 m3=>HcS 103 #[.slice A3 n3 m3] H8 fun A4 n4 m4 H9=>CpK Tryz.prog 5 (.slice A2 n2 m2) (.slice A4 n4 m4) H9 fun v8 H10=>DI .i64 v8 fun x3=>K (.tuple #[.slice A2 n2 m2,.int .i64 0]) H10))
theorem dZW.ok y1 x1 H K (h:dZW y1 x1 H K):Za Tryz.prog 109 #[.agg y1,.int .i64 x1] H K:=
 okN bZB Tryz.func109 rfl rfl h
def eZT (y1 y2:Array Value)(H:Hp)(K:VK):Prop:=
 Nw H (.obj (.cells y1 102)) fun b1 H1=>Nw H1 (.obj (.cells y2 102)) fun b2 H2=>LdA H2 ⟨b1,0,none⟩ 8 fun l1=>HcB 151 #[.agg l1.toArray] H2 fun c1 H3=>BIf (!c1) (K (.bool false) H3) (LdA H3 ⟨b2,0,none⟩ 8 fun l2=>HcB 151 #[.agg l2.toArray] H3 fun c2 H4=>BIf (!c2) (K (.bool false) H4) (LeW H4 ((⟨b2,0,none⟩:Addr).add 0) fun x1=>LeW H4 ((⟨b1,0,none⟩:Addr).add 0) fun x2=>BIf (x1 !=(u64.wrap (x2+1))) (K (.bool false) H4) (LeI H4 ((⟨b2,0,none⟩:Addr).add 1) fun x3=>BIf (x3==1) (K (.bool true) H4) (BIf (x3==2) (LeI H4 ((⟨b1,0,none⟩:Addr).add 1) fun x4=>BIf (x4==1) (LeU H4 ((⟨b1,0,none⟩:Addr).add 5) fun x5=>LeU H4 ((⟨b2,0,none⟩:Addr).add 5) fun x6=>BIf (x5==x6) (LeI H4 ((⟨b1,0,none⟩:Addr).add 2) fun x7=>LeI H4 ((⟨b2,0,none⟩:Addr).add 2) fun x8=>K (.bool (x7==x8)) H4) (K (.bool false) H4)) (K (.bool false) H4)) (BIf (x3==3) (LeI H4 ((⟨b1,0,none⟩:Addr).add 1) fun x9=>BIf (x9 !=1) (LdA H4 ⟨b1,0,none⟩ 8 fun l3=>LdA H4 ⟨b2,0,none⟩ 8 fun l4=>HcB 155 #[.agg l3.toArray,.agg l4.toArray] H4 fun c3 H5=>BIf c3 (LeU H5 ((⟨b2,0,none⟩:Addr).add 7) fun x10=>K (.bool (x10==0)) H5) (K (.bool false) H5)) (K (.bool false) H4)) (LeI H4 ((⟨b1,0,none⟩:Addr).add 1) fun x11=>BIf (decide (x11≥3)) (LdA H4 ⟨b1,0,none⟩ 8 fun l5=>LdA H4 ⟨b2,0,none⟩ 8 fun l6=>HcB 155 #[.agg l5.toArray,.agg l6.toArray] H4 fun c4 H6=>BIf c4 (LeI H6 ((⟨b1,0,none⟩:Addr).add 3) fun x12=>LeI H6 ((⟨b2,0,none⟩:Addr).add 3) fun x13=>BIf (x12==x13) (LeI H6 ((⟨b2,0,none⟩:Addr).add 4) fun x14=>LeI H6 ((⟨b1,0,none⟩:Addr).add 4) fun x15=>K (.bool (x14==(i64.wrap (x15+1)))) H6) (K (.bool false) H6)) (K (.bool false) H6)) (K (.bool false) H4)))))))
theorem eZT.ok y1 y2 H K (h:eZT y1 y2 H K):Za Tryz.prog 110 #[.agg y1,.agg y2] H K:=
 okN bZB Tryz.func110 rfl rfl h
def cZp.q1 (H7:Hp)(b1:Nat)(K:VK):Prop:=
 StA H7 ⟨b1,0,none⟩ #[.int .u64 0,.int .i64 0,.int .i64 0,.int .i64 0,.int .i64 0,.int .u32 0,.int .u32 0,.int .u32 0] 8 fun H8=>LdA H8 ⟨b1,0,none⟩ 8 fun l7=>K (.tuple #[.agg l7.toArray,.int .i64 10]) H8
def cZp (A1:OA)(n1 m1:Nat)(H:Hp)(K:VK):Prop:=
 Nw H (.obj (.cells #[.int .u64 0,.int .i64 0,.int .i64 0,.int .i64 0,.int .i64 0,.int .u32 0,.int .u32 0,.int .u32 0] 102)) fun b1 H1=>HcB 152 #[.int .i64 (n1:Int)] H1 fun c1 H2=>BIf (!c1) (StA H2 ⟨b1,0,none⟩ #[.int .u64 0,.int .i64 0,.int .i64 0,.int .i64 0,.int .i64 0,.int .u32 0,.int .u32 0,.int .u32 0] 8 fun H3=>LdA H3 ⟨b1,0,none⟩ 8 fun l6=>K (.tuple #[.agg l6.toArray,.int .i64 15]) H3) (Hz 177 #[.slice A1 n1 m1] H2 fun v2 H4=>tZC v2 fun A2 n2 m2 c2=>(HcA 178 #[.slice A2 n2 m2] H4 fun y1 H5=>Nw H5 (.obj (.cells #[.int .u64 0,.int .i64 0,.int .i64 0,.int .i64 0,.int .i64 0,.int .u32 0,.int .u32 0,.int .u32 0] 102)) fun b2 H6=>StA H6 ⟨b2,0,none⟩ y1 8 fun H7=>ixI 0 n2 (NN A2 fun a1=>LeW H7 (a1.add ((0:Int).toNat*1)) fun x1=>(0≤(48:Int)∧BIf ((aZq .u64 x1 48) !=21061) (cZp.q1 H7 b1 K) (BIf (!c2) (cZp.q1 H7 b1 K) (ixI 3 n2 (NN A2 fun a2=>LeW H7 (a2.add ((3:Int).toNat*1)) fun x2=>slB n2 m2 none (some 3) fun n3 n4=>QcW 154 #[.slice (slA A2 m2 n3 1) (n4-n3) (m2-n3)] H7 fun x3=>BIf (x2 !=x3) (StA H7 ⟨b1,0,none⟩ #[.int .u64 0,.int .i64 0,.int .i64 0,.int .i64 0,.int .i64 0,.int .u32 0,.int .u32 0,.int .u32 0] 8 fun H10=>LdA H10 ⟨b1,0,none⟩ 8 fun l9=>K (.tuple #[.agg l9.toArray,.int .i64 9]) H10) (LdA H7 ⟨b2,0,none⟩ 8 fun l4=>HcB 151 #[.agg l4.toArray] H7 fun c3 H11=>BIf (!c3) (StA H11 ⟨b1,0,none⟩ #[.int .u64 0,.int .i64 0,.int .i64 0,.int .i64 0,.int .i64 0,.int .u32 0,.int .u32 0,.int .u32 0] 8 fun H12=>LdA H12 ⟨b1,0,none⟩ 8 fun l10=>K (.tuple #[.agg l10.toArray,.int .i64 1]) H12) (LdA H11 ⟨b2,0,none⟩ 8 fun l5=>StA H11 ⟨b1,0,none⟩ l5.toArray 8 fun H13=>LdA H13 ⟨b1,0,none⟩ 8 fun l11=>K (.tuple #[.agg l11.toArray,.int .i64 0]) H13)))))))))
theorem cZp.ok A1 n1 m1 H K (h:cZp A1 n1 m1 H K):Za Tryz.prog 138 #[.slice A1 n1 m1] H K:=
 okN bZB Tryz.func138 rfl rfl h
def bZm.j10 (K:VK)(a1:Addr)(H:Hp):=
 LeI H (a1.add 4) fun x8=>BIf (x8==0) (LeI H (a1.add 3) fun x9=>BIf (x9==0) (LeU H (a1.add 7) fun x10=>K (.bool (x10==0)) H) (K (.bool false) H)) (K (.bool false) H)
def bZm (y1:Array Value)(H:Hp)(K:VK):Prop:=
 Nw H (.obj (.cells y1 102)) fun b1 H1=>LeW H1 ((⟨b1,0,none⟩:Addr).add 0) fun x1=>BIf (decide (x1<1)) (K (.bool false) H1) (LeW H1 ((⟨b1,0,none⟩:Addr).add 0) fun x2=>BIf (decide (x2≥281474976710656)) (K (.bool false) H1) (LeI H1 ((⟨b1,0,none⟩:Addr).add 2) fun x3=>BIf (decide (x3<0)) (K (.bool false) H1) (LeI H1 ((⟨b1,0,none⟩:Addr).add 2) fun x4=>BIf (decide (x4>32)) (K (.bool false) H1) (LeI H1 ((⟨b1,0,none⟩:Addr).add 3) fun x5=>HcB 186 #[.int .i64 x5] H1 fun c1 H2=>BIf (!c1) (K (.bool false) H2) (LeI H2 ((⟨b1,0,none⟩:Addr).add 1) fun x6=>BIf (x6==1) (LeU H2 ((⟨b1,0,none⟩:Addr).add 6) fun x7=>BIf (x7 !=0) (K (.bool false) H2) (bZm.j10 K ⟨b1,0,none⟩ H2)) (BIf (x6==2) (bZm.j10 K ⟨b1,0,none⟩ H2) (BIf (x6==3) (LeI H2 ((⟨b1,0,none⟩:Addr).add 4) fun x11=>K (.bool (x11==0)) H2) (BIf (x6==4) (LeI H2 ((⟨b1,0,none⟩:Addr).add 4) fun x12=>BIf (decide (x12≥1)) (LeI H2 ((⟨b1,0,none⟩:Addr).add 4) fun x13=>K (.bool (decide (x13≤(7:Int)))) H2) (K (.bool false) H2)) (K (.bool false) H2)))))))))
def bZm.Λ (K:VK):Zt:=⟨fun i=>match Nat.beq i 10 with|true=>some (fun E D H=>eN E 1 fun a1=>Zk D (bZm.j10 K a1 H))|false=>none,fun i=>none,(fun _=>none)⟩
theorem bZm.ok y1 H K (h:bZm y1 H K):Za Tryz.prog 151 #[.agg y1] H K:=
 okL (Λ:=(bZm.Λ K)) bZB Tryz.func151 rfl rfl h (oC (fun E D H h=>by
   obtain⟨a1,e1,g3⟩:=GN h;obtain⟨rfl,h'⟩:=Zk.out g3;exact okJ (Λ:=(bZm.Λ K)) bZB [] (Zb.cons e1 (Zb.nil _)) h' oN) oN)
def cZO (x1:Int)(H:Hp)(K:VK):Prop:=
 Hz 97 #[.int .i64 0,.int .i64 x1] H fun v1 H1=>jZm v1 fun x2 x3=>(K (.bool (x3==0)) H1)
theorem cZO.ok x1 H K (h:cZO x1 H K):Za Tryz.prog 152 #[.int .i64 x1] H K:=
 okN bZB Tryz.func152 rfl rfl h
def aZt.q1 (b4:Nat)(H4:Hp)(x9 x10:Int)(K:VK):Prop:=
 QcW 187 #[.slice (some ⟨b4,0,none⟩) 2 2] H4 fun x11=>Nw H4 (.row [.int .u64 x9,.int .u64 x10,.int .u64 x11] 82 3) fun b5 H5=>K (.slice (some ⟨b5,0,none⟩) 3 3) H5
def aZt.q2 (H6:Hp)(x2 x3 x4 x5 x6:Int)(b6:Nat)(x9:Int)(K:VK):Prop:=
 Nw H6 (.row [.int .u64 (u64.wrap x2),.int .u64 32,.int .u64 (u64.wrap x3),.int .u64 24,.int .u64 (u64.wrap x4),.int .u64 16,.int .u64 (u64.wrap x5),.int .u64 8,.int .u64 (u64.wrap x6),.int .u64 0] 280 10) fun b7 H7=>QcW 187 #[.slice (some ⟨b7,0,none⟩) 5 5] H7 fun x12=>aZt.q1 b6 H7 x9 x12 K
def aZt.q3 (H13:Hp)(x1:Int)(b9 b13:Nat)(K:VK):Prop:=
 Nw H13 (.row [.int .u64 21061,.int .u64 48,.int .u64 x1,.int .u64 0] 280 4) fun b14 H14=>QcW 187 #[.slice (some ⟨b14,0,none⟩) 2 2] H14 fun x17=>QcW 187 #[.slice (some ⟨b9,0,none⟩) 5 5] H14 fun x18=>aZt.q1 b13 H14 x17 x18 K
def aZt.q4 (b3:Nat)(H3:Hp)(x7 x8 x9:Int)(K:VK):Prop:=
 QcW 187 #[.slice (some ⟨b3,0,none⟩) 5 5] H3 fun x10=>Nw H3 (.row [.int .u64 (u64.wrap x7),.int .u64 32,.int .u64 (u64.wrap x8),.int .u64 0] 280 4) fun b4 H4=>aZt.q1 b4 H4 x9 x10 K
def aZt (y1:Array Value)(H:Hp)(K:VK):Prop:=
 Nw H (.obj (.cells y1 102)) fun b1 H1=>LeW H1 ((⟨b1,0,none⟩:Addr).add 0) fun x1=>LeU H1 ((⟨b1,0,none⟩:Addr).add 5) fun x2=>LeI H1 ((⟨b1,0,none⟩:Addr).add 4) fun x3=>LeI H1 ((⟨b1,0,none⟩:Addr).add 2) fun x4=>LeI H1 ((⟨b1,0,none⟩:Addr).add 3) fun x5=>LeI H1 ((⟨b1,0,none⟩:Addr).add 1) fun x6=>LeU H1 ((⟨b1,0,none⟩:Addr).add 6) fun x7=>LeU H1 ((⟨b1,0,none⟩:Addr).add 7) fun x8=>(Nw H1 (.row [.int .u64 21061,.int .u64 48,.int .u64 x1,.int .u64 0] 280 4) fun b2 H2=>QcW 187 #[.slice (some ⟨b2,0,none⟩) 2 2] H2 fun x9=>(Nw H2 (.row [.int .u64 (u64.wrap x2),.int .u64 32,.int .u64 (u64.wrap x3),.int .u64 24,.int .u64 (u64.wrap x4),.int .u64 16,.int .u64 (u64.wrap x5),.int .u64 8,.int .u64 (u64.wrap x6),.int .u64 0] 280 10) fun b3 H3=>aZt.q4 b3 H3 x7 x8 x9 K)∧(Nw H2 (.row [.int .u64 (u64.wrap x7),.int .u64 32,.int .u64 (u64.wrap x8),.int .u64 0] 280 4) fun b6 H6=>aZt.q2 H6 x2 x3 x4 x5 x6 b6 x9 K))∧(Nw H1 (.row [.int .u64 (u64.wrap x2),.int .u64 32,.int .u64 (u64.wrap x3),.int .u64 24,.int .u64 (u64.wrap x4),.int .u64 16,.int .u64 (u64.wrap x5),.int .u64 8,.int .u64 (u64.wrap x6),.int .u64 0] 280 10) fun b9 H9=>(Nw H9 (.row [.int .u64 21061,.int .u64 48,.int .u64 x1,.int .u64 0] 280 4) fun b10 H10=>QcW 187 #[.slice (some ⟨b10,0,none⟩) 2 2] H10 fun x14=>aZt.q4 b9 H10 x7 x8 x14 K)∧(Nw H9 (.row [.int .u64 (u64.wrap x7),.int .u64 32,.int .u64 (u64.wrap x8),.int .u64 0] 280 4) fun b13 H13=>aZt.q3 H13 x1 b9 b13 K))∧(Nw H1 (.row [.int .u64 (u64.wrap x7),.int .u64 32,.int .u64 (u64.wrap x8),.int .u64 0] 280 4) fun b16 H16=>(Nw H16 (.row [.int .u64 21061,.int .u64 48,.int .u64 x1,.int .u64 0] 280 4) fun b17 H17=>QcW 187 #[.slice (some ⟨b17,0,none⟩) 2 2] H17 fun x20=>aZt.q2 H17 x2 x3 x4 x5 x6 b16 x20 K)∧(Nw H16 (.row [.int .u64 (u64.wrap x2),.int .u64 32,.int .u64 (u64.wrap x3),.int .u64 24,.int .u64 (u64.wrap x4),.int .u64 16,.int .u64 (u64.wrap x5),.int .u64 8,.int .u64 (u64.wrap x6),.int .u64 0] 280 10) fun b20 H20=>aZt.q3 H20 x1 b20 b16 K))
theorem aZt.ok y1 H K (h:aZt y1 H K):Za Tryz.prog 153 #[.agg y1] H K:=
 ok0 (fun i=>match Nat.beq i 1 with|true=>some ([2,5,7,8,11,12,15,16,19,20,23,24,27,29,30,33,34,37],[0,0,2,6,15,31,0,64,192,448,0,1024,3072,7168,0,16384,49152,114688,0,262144,786432,1835008,0,4194304,12582912,29360128,67108800,134217727,0,268435456,805306368,1879048192,0,4294967296,12884901888,30064771072,68451041280,137438953471,274877906943,549755813887],0)|false=>none) bZB Tryz.func153 rfl rfl h
def fZv (A1:OA)(n1 m1:Nat)(H:Hp)(K:VK):Prop:=
 HcU 104 #[.slice A1 n1 m1] H fun x1 H1=>Nw H1 (.row [.int .u64 (u64.wrap (eZH .u32 u32.max x1)),.int .u64 32,.int .u64 (u64.wrap x1),.int .u64 0] 280 4) fun b1 H2=>HcW 187 #[.slice (some ⟨b1,0,none⟩) 2 2] H2 fun x2 H3=>K (.int .u64 x2) H3
theorem fZv.ok A1 n1 m1 H K (h:fZv A1 n1 m1 H K):Za Tryz.prog 154 #[.slice A1 n1 m1] H K:=
 okN bZB Tryz.func154 rfl rfl h
def fZu (y1 y2:Array Value)(H:Hp)(K:VK):Prop:=
 Nw H (.obj (.cells y1 102)) fun b1 H1=>Nw H1 (.obj (.cells y2 102)) fun b2 H2=>LeU H2 ((⟨b1,0,none⟩:Addr).add 5) fun x1=>LeU H2 ((⟨b2,0,none⟩:Addr).add 5) fun x2=>BIf (x1==x2) (LeI H2 ((⟨b1,0,none⟩:Addr).add 2) fun x3=>LeI H2 ((⟨b2,0,none⟩:Addr).add 2) fun x4=>BIf (x3==x4) (LeU H2 ((⟨b1,0,none⟩:Addr).add 6) fun x5=>LeU H2 ((⟨b2,0,none⟩:Addr).add 6) fun x6=>K (.bool (x5==x6)) H2) (K (.bool false) H2)) (K (.bool false) H2)
theorem fZu.ok y1 y2 H K (h:fZu y1 y2 H K):Za Tryz.prog 155 #[.agg y1,.agg y2] H K:=
 okN bZB Tryz.func155 rfl rfl h
def aZP.l2 (K:VK):Nat→OA→Nat→Nat→OA→Nat→Nat→Int→Hp→Prop
 |0,_,_,_,_,_,_,_,_=>False
 |k+1,A2,n2,m2,A3,n3,m3,x1,H=>
  let R2:=aZP.l2 K k
  BIf (decide (x1<4)) (Hz 136 #[.slice A2 n2 m2,.int .i64 x1] H fun v1 H1=>gZ7 v1 fun x2 x3=>(Nw H1 (.row [.int .u64 x2] 82 1) fun b1 H2=>cZ8 Tryz.prog 82 (.slice A3 n3 m3) (.slice (some ⟨b1,0,none⟩) 1 1) H2 fun v4 H3=>DSl v4 fun A4 n4 m4=>R2 A2 n2 m2 A4 n4 m4 (i64.wrap (x1+1)) H3)) (slB n2 m2 (some 32) none fun n5 n6=>BsK H (slA A2 m2 n5 1) (n6-n5) fun s1=>HcT 194 #[.string s1,.string (⟨#[0]⟩)] H fun s2 H4=>K (.tuple #[.slice A3 n3 m3,.bool (s2.toList==((⟨#[]⟩):ByteArray).toList)]) H4)
def aZP (A1:OA)(n1 m1:Nat)(H:Hp)(K:VK):Prop:=
 (∃ k,aZP.l2 K k A1 n1 m1 none 0 0 0 H)
def aZP.l2.L (K:VK)(k:Nat):Mid:=fun E D H=>
 DG (E.get? 0) fun w0=>DSl w0 fun A2 n2 m2=>DG (E.get? 2) fun w2=>DSl w2 fun A3 n3 m3=>eI E 7 .i64 fun x1=>Zk D (aZP.l2 K k A2 n2 m2 A3 n3 m3 x1 H)
def aZP.Λ2 (_:VK)(_R2:OA→Nat→Nat→OA→Nat→Nat→Int→Hp→Prop):Zt:=Zt.none (fun _=>none)
def aZP.Λ (K:VK):Zt:=⟨fun i=>none,fun i=>match Nat.beq i 2 with|true=>some (fun E D H=>∃ k,aZP.l2.L K k E D H)|false=>none,(fun _=>none)⟩
theorem aZP.ok A1 n1 m1 H K (h:aZP A1 n1 m1 H K):Za Tryz.prog 177 #[.slice A1 n1 m1] H K:=
 okL (Λ:=(aZP.Λ K)) bZB Tryz.func177 rfl rfl h (oC (fun E D H h=>by
   refine Safe.loop' (aZP.l2.L K) (fun E D H h=>?_) (fun k E D H h=>?_) E D H h
   ·obtain⟨w0,e0,g1⟩:=DG.out h;obtain⟨A2,n2,m2,rfl,g2⟩:=DSl.out g1;obtain⟨w2,e2,g3⟩:=DG.out g2;obtain⟨A3,n3,m3,rfl,g4⟩:=DSl.out g3;obtain⟨w7,e7,g5⟩:=DG.out g4;obtain⟨x1,rfl,g6⟩:=DI.out g5;obtain⟨rfl,h'⟩:=Zk.out g6;exact h'
   ·obtain⟨w0,e0,g1⟩:=DG.out h;obtain⟨A2,n2,m2,rfl,g2⟩:=DSl.out g1;obtain⟨w2,e2,g3⟩:=DG.out g2;obtain⟨A3,n3,m3,rfl,g4⟩:=DSl.out g3;obtain⟨x1,e7,g6⟩:=GI g4;obtain⟨rfl,h'⟩:=Zk.out g6;exact okJ (Λ:=(aZP.Λ2 K (aZP.l2 K k))) bZB [] (Zb.cons e0 (Zb.cons e2 (Zb.cons e7 (Zb.nil _)))) h' oN) oN)
def gZO (A1:OA)(n1 m1:Nat)(H:Hp)(K:VK):Prop:=
 Nw H (.obj (.cells #[.int .u64 0,.int .i64 0,.int .i64 0,.int .i64 0,.int .i64 0,.int .u32 0,.int .u32 0,.int .u32 0] 102)) fun b1 H1=>ixI 0 n1 (NN A1 fun a1=>LeW H1 (a1.add ((0:Int).toNat*1)) fun x1=>ixI 1 n1 (NN A1 fun a2=>LeW H1 (a2.add ((1:Int).toNat*1)) fun x2=>ixI 1 n1 (NN A1 fun a3=>LeW H1 (a3.add ((1:Int).toNat*1)) fun x3=>(0≤(8:Int)∧ixI 1 n1 (NN A1 fun a4=>LeW H1 (a4.add ((1:Int).toNat*1)) fun x4=>(0≤(16:Int)∧ixI 1 n1 (NN A1 fun a5=>LeW H1 (a5.add ((1:Int).toNat*1)) fun x5=>(0≤(24:Int)∧ixI 1 n1 (NN A1 fun a6=>LeW H1 (a6.add ((1:Int).toNat*1)) fun x6=>(0≤(32:Int)∧ixI 2 n1 (NN A1 fun a7=>LeW H1 (a7.add ((2:Int).toNat*1)) fun x7=>(0≤(32:Int)∧ixI 2 n1 (NN A1 fun a8=>LeW H1 (a8.add ((2:Int).toNat*1)) fun x8=>StA H1 ⟨b1,0,none⟩ #[.int .u64 (aZr .u64 x1 281474976710655),.int .i64 (i64.wrap (aZr .u64 x2 255)),.int .i64 (i64.wrap (aZr .u64 (aZq .u64 x4 16) 255)),.int .i64 (i64.wrap (aZr .u64 (aZq .u64 x3 8) 255)),.int .i64 (i64.wrap (aZr .u64 (aZq .u64 x5 24) 255)),.int .u32 (u32.wrap (aZq .u64 x6 32)),.int .u32 (u32.wrap (aZq .u64 x7 32)),.int .u32 (u32.wrap x8)] 8 fun H2=>LdA H2 ⟨b1,0,none⟩ 8 fun l1=>K (.agg l1.toArray) H2)))))))))))))
theorem gZO.ok A1 n1 m1 H K (h:gZO A1 n1 m1 H K):Za Tryz.prog 178 #[.slice A1 n1 m1] H K:=
 ok0 (fun i=>match Nat.beq i 1 with|true=>some ([],[0,1,2,3,4,5,6,7,8,9,10,11,12,13,14,15,16,17,18,19,20,21,22,23,24,25,26,27,28,29,30,31,32,33,34,35,36,37,38,39,40,41],42)|false=>none) bZB Tryz.func178 rfl rfl h
def dZx (x1:Int)(H:Hp)(K:VK):Prop:=
 BIf (x1==0) (K (.bool true) H) (K (.bool (x1==1)) H)
theorem dZx.ok x1 H K (h:dZx x1 H K):Za Tryz.prog 186 #[.int .i64 x1] H K:=
 okN bZB Tryz.func186 rfl rfl h
def aZH.l3 (K:VK):Nat→Int→OA→Nat→Nat→Int→Int→Hp→Prop
 |0,_,_,_,_,_,_,_=>False
 |k+1,x1,A2,n2,m2,x2,x3,H=>
  let R3:=aZH.l3 K k
  BIf (decide (x3<x2)) (ixI x3 n2 (NN A2 fun a1=>LdA H (a1.add (x3.toNat*2)) 2 fun l1=>Nw H (.obj (.cells #[.int .u64 0,.int .u64 0] 280)) fun b1 H1=>StA H1 ⟨b1,0,none⟩ l1.toArray 2 fun H2=>LeW H2 ((⟨b1,0,none⟩:Addr).add 0) fun x4=>LeW H2 ((⟨b1,0,none⟩:Addr).add 1) fun x5=>(0≤x5∧R3 (bOr .u64 x1 (aZE .u64 x4 x5)) A2 n2 m2 x2 (i64.wrap (x3+1)) H2))) (K (.int .u64 x1) H)
def aZH (A1:OA)(n1 m1:Nat)(H:Hp)(K:VK):Prop:=
 (∃ k,aZH.l3 K k 0 A1 n1 m1 (n1:Int) 0 H)
def aZH.l3.L (K:VK)(k:Nat):Mid:=fun E D H=>
 eI E 3 .u64 fun x1=>DG (E.get? 6) fun w6=>DSl w6 fun A2 n2 m2=>eI E 7 .i64 fun x2=>eI E 8 .i64 fun x3=>Zk D (aZH.l3 K k x1 A2 n2 m2 x2 x3 H)
def aZH.Λ3 (_:VK)(_R3:Int→OA→Nat→Nat→Int→Int→Hp→Prop):Zt:=Zt.none (fun _=>none)
def aZH.Λ (K:VK):Zt:=⟨fun i=>none,fun i=>match Nat.beq i 3 with|true=>some (fun E D H=>∃ k,aZH.l3.L K k E D H)|false=>none,(fun _=>none)⟩
theorem aZH.ok A1 n1 m1 H K (h:aZH A1 n1 m1 H K):Za Tryz.prog 187 #[.slice A1 n1 m1] H K:=
 okL (Λ:=(aZH.Λ K)) bZB Tryz.func187 rfl rfl h (oC (fun E D H h=>by
   refine Safe.loop' (aZH.l3.L K) (fun E D H h=>?_) (fun k E D H h=>?_) E D H h
   ·obtain⟨w3,e3,g1⟩:=DG.out h;obtain⟨x1,rfl,g2⟩:=DI.out g1;obtain⟨w6,e6,g3⟩:=DG.out g2;obtain⟨A2,n2,m2,rfl,g4⟩:=DSl.out g3;obtain⟨w7,e7,g5⟩:=DG.out g4;obtain⟨x2,rfl,g6⟩:=DI.out g5;obtain⟨w8,e8,g7⟩:=DG.out g6;obtain⟨x3,rfl,g8⟩:=DI.out g7;obtain⟨rfl,h'⟩:=Zk.out g8;exact h'
   ·obtain⟨x1,e3,g2⟩:=GI h;obtain⟨w6,e6,g3⟩:=DG.out g2;obtain⟨A2,n2,m2,rfl,g4⟩:=DSl.out g3;obtain⟨x2,e7,g6⟩:=GI g4;obtain⟨x3,e8,g8⟩:=GI g6;obtain⟨rfl,h'⟩:=Zk.out g8;exact okJ (Λ:=(aZH.Λ3 K (aZH.l3 K k))) bZB [] (Zb.cons e3 (Zb.cons e6 (Zb.cons e7 (Zb.cons e8 (Zb.nil _))))) h' oN) oN)
end Go.Proofs.YtgfildcgihbdaaaGreatDoor.W
namespace Go.Proofs.YtgfildcgihbdaaaGreatDoor.Rec
open Go Go.Hw W
structure R where
 s:Nat
 kd:Int
 kk:Int
 dir:Int
 ps:Int
 ld:Nat
 inp:Nat
 out:Nat
def R.c (r:R):Array Value:=#[.int .u64 (r.s:Int),.int .i64 r.kd,.int .i64 r.kk,.int .i64 r.dir,.int .i64 r.ps,.int .u32 (r.ld:Int),.int .u32 (r.inp:Int),.int .u32 (r.out:Int)]
def bZD (r:R):AO:=.obj (.cells r.c 102)
abbrev R.good (r:R):Prop:=1≤r.s∧r.s<281474976710656∧0≤r.kk∧r.kk≤32∧(r.dir=0∨r.dir=1)∧
 ((r.kd=1∧r.inp=0∧r.ps=0∧r.dir=0∧r.out=0)∨(r.kd=2∧r.ps=0∧r.dir=0∧r.out=0)∨(r.kd=3∧r.ps=0)∨(r.kd=4∧1≤r.ps∧r.ps≤7))
theorem oZi (x:Int)(H:Hp):Za Tryz.prog 186 #[.int .i64 x] H (RetE (.bool (decide (x=0∨x=1))) H):=by
 apply dZx.ok;unfold dZx;by_cases h:x=0
 ·rw[decide_eq_true (.inl h)];exact ZS h (RetE.mk _ _)
 ·refine aZg h ⟨?_,rfl⟩;by_cases h1:x=1
  ·rw[decide_eq_true (.inr h1),h1];rfl
  ·rw[decide_eq_false (by omega),beq_eq_false_iff_ne.2 h1]
section
variable {r : R} {H0 H : Hp} {b1 : Nat}
theorem fZh (hs:Sep [own H0,pts b1 (bZD r)] H)(h:¬r.good):Ret (.bool (decide r.good)) H0 (.bool false) H:=by
 rw[decide_eq_false h];exact hs.fin 0 rfl _
theorem qZZ (hs:Sep [own H0,pts b1 (bZD r)] H){b:Bool}(h:b=true↔r.good):Ret (.bool (decide r.good)) H0 (.bool b) H:=by
 have:decide r.good=b:=by
  cases b with
  |true=>exact decide_eq_true (h.1 rfl)
  |false=>exact decide_eq_false fun g=>by have:=h.2 g;cases this
 rw[this];exact hs.fin 0 rfl _
theorem nZZ (hs:Sep [own H0,pts b1 (bZD r)] H)(h:(r.ps=0∧r.dir=0∧r.out=0)↔r.good):bZm.j10 (Ret (.bool (decide r.good)) H0) ⟨b1,0,none⟩ H:=by
 unfold bZm.j10;refine hs.ldf 1 rfl rfl ?_;simp only[HV];by_cases h1:r.ps=0
 ·refine ZS h1 ?_;refine hs.ldf 1 rfl rfl ?_;simp only[HV];by_cases h2:r.dir=0
  ·refine ZS h2 ?_;refine hs.ldf 1 rfl rfl ?_;simp only[HV];refine qZZ hs ?_;rw[← h,beq_iff_eq];omega
  ·exact aZg h2 (fZh hs fun g=>h2 (h.2 g).2.1)
 ·exact aZg h1 (fZh hs fun g=>h1 (h.2 g).1)
end
theorem bZR (r:R)(H:Hp):Za Tryz.prog 151 #[.agg r.c] H (RetE (.bool (decide r.good)) H):=Za.ret (by
 apply bZm.ok;unfold bZm;refine(Sep.start H).nw fun b1 H1 hs=>?_
 have hs:Sep [own H,pts b1 (bZD r)] H1:=hs;refine hs.ldf 1 rfl rfl ?_;simp only[HV];by_cases h1:(r.s:Int)<1
 ·exact Zn h1 (fZh hs fun g=>by have:=g.1;omega)
 refine Zh h1 ?_;refine hs.ldf 1 rfl rfl ?_;simp only[HV];by_cases h2:(r.s:Int)≥281474976710656
 ·exact Zn h2 (fZh hs fun g=>by have:=g.2.1;omega)
 refine Zh h2 ?_;refine hs.ldf 1 rfl rfl ?_;simp only[HV];by_cases h3:r.kk<0
 ·exact Zn h3 (fZh hs fun g=>by have:=g.2.2.1;omega)
 refine Zh h3 ?_;refine hs.ldf 1 rfl rfl ?_;simp only[HV];by_cases h4:r.kk>32
 ·exact Zn h4 (fZh hs fun g=>by have:=g.2.2.2.1;omega)
 refine Zh h4 ?_;refine hs.ldf 1 rfl rfl ?_;simp only[HV];refine Za.use (oZi r.dir H1) ?_;simp only[HV];by_cases h5:r.dir=0∨r.dir=1
 case neg=>
  rw[decide_eq_false h5];exact aZx rfl (fZh hs fun g=>h5 g.2.2.2.2.1)
 rw[decide_eq_true h5];refine aZc rfl ?_;have hd:∀{P:Prop},(P↔((r.kd=1∧r.inp=0∧r.ps=0∧r.dir=0∧r.out=0)∨(r.kd=2∧r.ps=0∧r.dir=0∧r.out=0)∨(r.kd=3∧r.ps=0)∨(r.kd=4∧1≤r.ps∧r.ps≤7)))→(P↔r.good):=fun h=>by
  rw[h];exact⟨fun g=>⟨by omega,by omega,by omega,by omega,h5,g⟩,fun g=>g.2.2.2.2.2⟩
 refine hs.ldf 1 rfl rfl ?_;simp only[HV];by_cases k1:r.kd=1
 ·refine ZS k1 ?_;refine hs.ldf 1 rfl rfl ?_;simp only[HV];by_cases h6:(r.inp:Int)=0
  ·exact Zq h6 (nZZ hs (hd (by omega)))
  ·exact ZA h6 (fZh hs fun g=>by have:=g.2.2.2.2.2;omega)
 refine aZg k1 ?_;by_cases k2:r.kd=2
 ·exact ZS k2 (nZZ hs (hd (by omega)))
 refine aZg k2 ?_;by_cases k3:r.kd=3
 ·refine ZS k3 ?_;refine hs.ldf 1 rfl rfl ?_;simp only[HV];refine qZZ hs (hd ?_);rw[beq_iff_eq];omega
 refine aZg k3 ?_;by_cases k4:r.kd=4
 ·refine ZS k4 ?_;refine hs.ldf 1 rfl rfl ?_;simp only[HV];by_cases h7:r.ps≥1
  ·refine Zn h7 ?_;refine hs.ldf 1 rfl rfl ?_;simp only[HV];refine qZZ hs (hd ?_);rw[decide_eq_true_eq];omega
  ·exact Zh h7 (fZh hs fun g=>by have:=g.2.2.2.2.2;omega)
 ·exact aZg k4 (fZh hs fun g=>by have:=g.2.2.2.2.2;omega))
end Go.Proofs.YtgfildcgihbdaaaGreatDoor.Rec
namespace Go.Proofs.YtgfildcgihbdaaaGreatDoor.W
open Go Go.Hw
theorem bZQ :Tryz.prog.follows .mixedOrders=true:=by kernel_rfl
def Zx.l2 (K:VK):Nat→OA→Nat→Nat→FuncId→Array Value→Array Value→Int→Int→Hp→Prop
 |0,_,_,_,_,_,_,_,_,_=>False
 |k+1,A2,n2,m2,fd2,F2,C2,x1,x2,H=>
  let R2:=Zx.l2 K k
  BIf (decide (x2<x1)) (ixI x2 n2 (NN A2 fun a1=>LeW H (a1.add (x2.toNat*1)) fun x3=>dZJ Tryz.prog fd2 ((F2++ #[.int .u64 x3])++C2) H fun v2 H1=>DR Tryz.prog (bZv Tryz.prog fd2) v2 fun v3=>DB v3 fun c1=>BIf c1 (K (.int .i64 x2) H1) (R2 A2 n2 m2 fd2 F2 C2 x1 (i64.wrap (x2+1)) H1))) (K (.int .i64 (-1)) H)
def Zx (A1:OA)(n1 m1:Nat)(fd1:FuncId)(F1 C1:Array Value)(H:Hp)(K:VK):Prop:=
 (∃ k,Zx.l2 K k A1 n1 m1 fd1 F1 C1 (n1:Int) 0 H)
def Zx.l2.L (K:VK)(k:Nat):Mid:=fun E D H=>
 DG (E.get? 0) fun w0=>DSl w0 fun A2 n2 m2=>DG (E.get? 1) fun w1=>DFn w1 fun fd2 F2 C2=>eI E 7 .i64 fun x1=>eI E 8 .i64 fun x2=>Zk D (Zx.l2 K k A2 n2 m2 fd2 F2 C2 x1 x2 H)
def Zx.Λ2 (_:VK)(_R2:OA→Nat→Nat→FuncId→Array Value→Array Value→Int→Int→Hp→Prop):Zt:=Zt.none (fun _=>none)
def Zx.Λ (K:VK):Zt:=⟨fun i=>none,fun i=>match Nat.beq i 2 with|true=>some (fun E D H=>∃ k,Zx.l2.L K k E D H)|false=>none,(fun _=>none)⟩
theorem Zx.ok A1 n1 m1 fd1 F1 C1 H K (h:Zx A1 n1 m1 fd1 F1 C1 H K):Za Tryz.prog 106 #[.slice A1 n1 m1,.func (.func fd1) F1 C1] H K:=
 okL (Λ:=(Zx.Λ K)) bZQ Tryz.func106 rfl rfl h (oC (fun E D H h=>by
   refine Safe.loop' (Zx.l2.L K) (fun E D H h=>?_) (fun k E D H h=>?_) E D H h
   ·obtain⟨w0,e0,g1⟩:=DG.out h;obtain⟨A2,n2,m2,rfl,g2⟩:=DSl.out g1;obtain⟨w1,e1,g3⟩:=DG.out g2;obtain⟨fd2,F2,C2,rfl,g4⟩:=DFn.out g3;obtain⟨w7,e7,g5⟩:=DG.out g4;obtain⟨x1,rfl,g6⟩:=DI.out g5;obtain⟨w8,e8,g7⟩:=DG.out g6;obtain⟨x2,rfl,g8⟩:=DI.out g7;obtain⟨rfl,h'⟩:=Zk.out g8;exact h'
   ·obtain⟨w0,e0,g1⟩:=DG.out h;obtain⟨A2,n2,m2,rfl,g2⟩:=DSl.out g1;obtain⟨w1,e1,g3⟩:=DG.out g2;obtain⟨fd2,F2,C2,rfl,g4⟩:=DFn.out g3;obtain⟨x1,e7,g6⟩:=GI g4;obtain⟨x2,e8,g8⟩:=GI g6;obtain⟨rfl,h'⟩:=Zk.out g8;exact okJ (Λ:=(Zx.Λ2 K (Zx.l2 K k))) bZQ [] (Zb.cons e0 (Zb.cons e1 (Zb.cons e7 (Zb.cons e8 (Zb.nil _))))) h' oN) oN)
def bZf (A1:OA)(n1 m1:Nat)(fd1:FuncId)(F1 C1:Array Value)(H:Hp)(K:VK):Prop:=
 HcI 148 #[.int .u64 (u64.wrap (n1:Int))] H fun x1 H1=>Hz 179 #[.slice A1 n1 m1,.int .i64 0,.int .i64 (n1:Int),.int .i64 x1,.func (.func fd1) F1 C1] H1 fun v2 H2=>K (.tuple #[]) H2
theorem bZf.ok A1 n1 m1 fd1 F1 C1 H K (h:bZf A1 n1 m1 fd1 F1 C1 H K):Za Tryz.prog 139 #[.slice A1 n1 m1,.func (.func fd1) F1 C1] H K:=
 okN bZQ Tryz.func139 rfl rfl h
def Ze.j20 (K:VK)(R2:OA→Nat→Nat→Int→Int→Int→FuncId→Array Value→Array Value→Bool→Bool→Hp→Prop)(A6:OA)(n6 m6:Nat)(x26 x27 x28:Int)(fd6:FuncId)(F6 C6:Array Value)(x29 x30:Int)(H:Hp):=
 Hz 202 #[.slice A6 n6 m6,.int .i64 x26,.int .i64 x27,.int .i64 x30,.func (.func fd6) F6 C6] H fun v12 H9=>gZ6 v12 fun x31 c10=>(((8:Int)≠0∧i64=i64∧BIf (decide ((i64.wrap (x31-x26))<(i64.wrap (x27-x31)))) (Hz 179 #[.slice A6 n6 m6,.int .i64 x26,.int .i64 x31,.int .i64 x28,.func (.func fd6) F6 C6] H9 fun v15 H10=>R2 A6 n6 m6 (i64.wrap (x31+1)) x27 x28 fd6 F6 C6 (decide ((i64.wrap (x31-x26))≥(i64.wrap (Int.tdiv x29 8)))) c10 H10) (Hz 179 #[.slice A6 n6 m6,.int .i64 (i64.wrap (x31+1)),.int .i64 x27,.int .i64 x28,.func (.func fd6) F6 C6] H9 fun v16 H11=>R2 A6 n6 m6 x26 x31 x28 fd6 F6 C6 (decide ((i64.wrap (x27-x31))≥(i64.wrap (Int.tdiv x29 8)))) c10 H11)))
def Ze.j17 (K:VK)(R2:OA→Nat→Nat→Int→Int→Int→FuncId→Array Value→Array Value→Bool→Bool→Hp→Prop)(A5:OA)(n5 m5:Nat)(x19 x20 x21:Int)(fd5:FuncId)(F5 C5:Array Value)(c8 c9:Bool)(x22 x23:Int)(H:Hp):=
 BIf (decide (x19>0)) (ixI (i64.wrap (x19-1)) n5 (NN A5 fun a1=>LdA H (a1.add ((i64.wrap (x19-1)).toNat*8)) 8 fun l4=>ixI x23 n5 (NN A5 fun a2=>LdA H (a2.add (x23.toNat*8)) 8 fun l5=>dZJ Tryz.prog fd5 ((F5++ #[.agg l4.toArray,.agg l5.toArray])++C5) H fun v9 H7=>DR Tryz.prog (bZv Tryz.prog fd5) v9 fun v10=>DI .i64 v10 fun x24=>BIf (!(decide (x24<0))) (HcI 201 #[.slice A5 n5 m5,.int .i64 x19,.int .i64 x20,.int .i64 x23,.func (.func fd5) F5 C5] H7 fun x25 H8=>R2 A5 n5 m5 x25 x20 x21 fd5 F5 C5 c8 c9 H8) (Ze.j20 K R2 A5 n5 m5 x19 x20 x21 fd5 F5 C5 x22 x23 H7)))) (Ze.j20 K R2 A5 n5 m5 x19 x20 x21 fd5 F5 C5 x22 x23 H)
def Ze.j15 (K:VK)(R2:OA→Nat→Nat→Int→Int→Int→FuncId→Array Value→Array Value→Bool→Bool→Hp→Prop)(A4:OA)(n4 m4:Nat)(x13 x14 x15:Int)(fd4:FuncId)(F4 C4:Array Value)(c5 c6:Bool)(x16 x17 x18:Int)(H:Hp):=
 BIf c5 (BIf c6 (BIf (x18==1) (HcB 200 #[.slice A4 n4 m4,.int .i64 x13,.int .i64 x14,.func (.func fd4) F4 C4] H fun c7 H6=>BIf c7 (K (.tuple #[]) H6) (Ze.j17 K R2 A4 n4 m4 x13 x14 x15 fd4 F4 C4 c5 c6 x16 x17 H6)) (Ze.j17 K R2 A4 n4 m4 x13 x14 x15 fd4 F4 C4 c5 c6 x16 x17 H)) (Ze.j17 K R2 A4 n4 m4 x13 x14 x15 fd4 F4 C4 c5 c6 x16 x17 H)) (Ze.j17 K R2 A4 n4 m4 x13 x14 x15 fd4 F4 C4 c5 c6 x16 x17 H)
def Ze.j10 (K:VK)(R2:OA→Nat→Nat→Int→Int→Int→FuncId→Array Value→Array Value→Bool→Bool→Hp→Prop)(A3:OA)(n3 m3:Nat)(x7 x8 x9:Int)(fd3:FuncId)(F3 C3:Array Value)(c3 c4:Bool)(x10:Int)(H:Hp):=
 Hz 198 #[.slice A3 n3 m3,.int .i64 x7,.int .i64 x8,.func (.func fd3) F3 C3] H fun v4 H4=>jZm v4 fun x11 x12=>(BIf (x12==2) (Hz 199 #[.slice A3 n3 m3,.int .i64 x7,.int .i64 x8,.func (.func fd3) F3 C3] H4 fun v7 H5=>Ze.j15 K R2 A3 n3 m3 x7 x8 x9 fd3 F3 C3 c3 c4 x10 (i64.wrap ((i64.wrap (x8-1))-(i64.wrap (x11-x7)))) 1 H5) (Ze.j15 K R2 A3 n3 m3 x7 x8 x9 fd3 F3 C3 c3 c4 x10 x11 x12 H4))
def Ze.l2 (K:VK):Nat→OA→Nat→Nat→Int→Int→Int→FuncId→Array Value→Array Value→Bool→Bool→Hp→Prop
 |0,_,_,_,_,_,_,_,_,_,_,_,_=>False
 |k+1,A2,n2,m2,x4,x5,x6,fd2,F2,C2,c1,c2,H=>
  let R2:=Ze.l2 K k
  BIf (decide ((i64.wrap (x5-x4))≤12)) (Hz 195 #[.slice A2 n2 m2,.int .i64 x4,.int .i64 x5,.func (.func fd2) F2 C2] H fun v1 H1=>K (.tuple #[]) H1) (BIf (x6==0) (Hz 196 #[.slice A2 n2 m2,.int .i64 x4,.int .i64 x5,.func (.func fd2) F2 C2] H fun v2 H2=>K (.tuple #[]) H2) (BIf (!c1) (Hz 197 #[.slice A2 n2 m2,.int .i64 x4,.int .i64 x5,.func (.func fd2) F2 C2] H fun v3 H3=>Ze.j10 K R2 A2 n2 m2 x4 x5 (i64.wrap (x6-1)) fd2 F2 C2 c1 c2 (i64.wrap (x5-x4)) H3) (Ze.j10 K R2 A2 n2 m2 x4 x5 x6 fd2 F2 C2 c1 c2 (i64.wrap (x5-x4)) H)))
def Ze (A1:OA)(n1 m1:Nat)(x1 x2 x3:Int)(fd1:FuncId)(F1 C1:Array Value)(H:Hp)(K:VK):Prop:=
 (∃ k,Ze.l2 K k A1 n1 m1 x1 x2 x3 fd1 F1 C1 true true H)
def Ze.l2.L (K:VK)(k:Nat):Mid:=fun E D H=>
 DG (E.get? 0) fun w0=>DSl w0 fun A2 n2 m2=>eI E 1 .i64 fun x4=>eI E 2 .i64 fun x5=>eI E 3 .i64 fun x6=>DG (E.get? 4) fun w4=>DFn w4 fun fd2 F2 C2=>DG (E.get? 10) fun w10=>DB w10 fun c1=>DG (E.get? 11) fun w11=>DB w11 fun c2=>Zk D (Ze.l2 K k A2 n2 m2 x4 x5 x6 fd2 F2 C2 c1 c2 H)
def Ze.Λ2 (K:VK)(R2:OA→Nat→Nat→Int→Int→Int→FuncId→Array Value→Array Value→Bool→Bool→Hp→Prop):Zt:=⟨fun i=>match Nat.beq i 20 with|true=>some (fun E D H=>DG (E.get? 0) fun w0=>DSl w0 fun A6 n6 m6=>eI E 1 .i64 fun x26=>eI E 2 .i64 fun x27=>eI E 3 .i64 fun x28=>DG (E.get? 4) fun w4=>DFn w4 fun fd6 F6 C6=>eI E 12 .i64 fun x29=>eI E 13 .i64 fun x30=>Zk D (Ze.j20 K R2 A6 n6 m6 x26 x27 x28 fd6 F6 C6 x29 x30 H))|false=>match Nat.beq i 17 with|true=>some (fun E D H=>DG (E.get? 0) fun w0=>DSl w0 fun A5 n5 m5=>eI E 1 .i64 fun x19=>eI E 2 .i64 fun x20=>eI E 3 .i64 fun x21=>DG (E.get? 4) fun w4=>DFn w4 fun fd5 F5 C5=>DG (E.get? 10) fun w10=>DB w10 fun c8=>DG (E.get? 11) fun w11=>DB w11 fun c9=>eI E 12 .i64 fun x22=>eI E 13 .i64 fun x23=>Zk D (Ze.j17 K R2 A5 n5 m5 x19 x20 x21 fd5 F5 C5 c8 c9 x22 x23 H))|false=>match Nat.beq i 15 with|true=>some (fun E D H=>DG (E.get? 0) fun w0=>DSl w0 fun A4 n4 m4=>eI E 1 .i64 fun x13=>eI E 2 .i64 fun x14=>eI E 3 .i64 fun x15=>DG (E.get? 4) fun w4=>DFn w4 fun fd4 F4 C4=>DG (E.get? 10) fun w10=>DB w10 fun c5=>DG (E.get? 11) fun w11=>DB w11 fun c6=>eI E 12 .i64 fun x16=>eI E 13 .i64 fun x17=>eI E 14 .i64 fun x18=>Zk D (Ze.j15 K R2 A4 n4 m4 x13 x14 x15 fd4 F4 C4 c5 c6 x16 x17 x18 H))|false=>match Nat.beq i 10 with|true=>some (fun E D H=>DG (E.get? 0) fun w0=>DSl w0 fun A3 n3 m3=>eI E 1 .i64 fun x7=>eI E 2 .i64 fun x8=>eI E 3 .i64 fun x9=>DG (E.get? 4) fun w4=>DFn w4 fun fd3 F3 C3=>DG (E.get? 10) fun w10=>DB w10 fun c3=>DG (E.get? 11) fun w11=>DB w11 fun c4=>eI E 12 .i64 fun x10=>Zk D (Ze.j10 K R2 A3 n3 m3 x7 x8 x9 fd3 F3 C3 c3 c4 x10 H))|false=>none,fun i=>none,(fun i=>match Nat.beq i 17 with|true=>some ([],[0,1,2,3,4,5,6,7,8,9,10,11,12],13)|false=>none)⟩
def Ze.Λ (K:VK):Zt:=⟨fun i=>none,fun i=>match Nat.beq i 2 with|true=>some (fun E D H=>∃ k,Ze.l2.L K k E D H)|false=>none,(fun i=>match Nat.beq i 17 with|true=>some ([],[0,1,2,3,4,5,6,7,8,9,10,11,12],13)|false=>none)⟩
theorem Ze.ok A1 n1 m1 x1 x2 x3 fd1 F1 C1 H K (h:Ze A1 n1 m1 x1 x2 x3 fd1 F1 C1 H K):Za Tryz.prog 179 #[.slice A1 n1 m1,.int .i64 x1,.int .i64 x2,.int .i64 x3,.func (.func fd1) F1 C1] H K:=
 okL (Λ:=(Ze.Λ K)) bZQ Tryz.func179 rfl rfl h (oC (fun E D H h=>by
   refine Safe.loop' (Ze.l2.L K) (fun E D H h=>?_) (fun k E D H h=>?_) E D H h
   ·obtain⟨w0,e0,g1⟩:=DG.out h;obtain⟨A2,n2,m2,rfl,g2⟩:=DSl.out g1;obtain⟨w1,e1,g3⟩:=DG.out g2;obtain⟨x4,rfl,g4⟩:=DI.out g3;obtain⟨w2,e2,g5⟩:=DG.out g4;obtain⟨x5,rfl,g6⟩:=DI.out g5;obtain⟨w3,e3,g7⟩:=DG.out g6;obtain⟨x6,rfl,g8⟩:=DI.out g7;obtain⟨w4,e4,g9⟩:=DG.out g8;obtain⟨fd2,F2,C2,rfl,g10⟩:=DFn.out g9;obtain⟨w10,e10,g11⟩:=DG.out g10;obtain⟨c1,rfl,g12⟩:=DB.out g11;obtain⟨w11,e11,g13⟩:=DG.out g12;obtain⟨c2,rfl,g14⟩:=DB.out g13;obtain⟨rfl,h'⟩:=Zk.out g14;exact h'
   ·obtain⟨w0,e0,g1⟩:=DG.out h;obtain⟨A2,n2,m2,rfl,g2⟩:=DSl.out g1;obtain⟨x4,e1,g4⟩:=GI g2;obtain⟨x5,e2,g6⟩:=GI g4;obtain⟨x6,e3,g8⟩:=GI g6;obtain⟨w4,e4,g9⟩:=DG.out g8;obtain⟨fd2,F2,C2,rfl,g10⟩:=DFn.out g9;obtain⟨w10,e10,g11⟩:=DG.out g10;obtain⟨c1,rfl,g12⟩:=DB.out g11;obtain⟨w11,e11,g13⟩:=DG.out g12;obtain⟨c2,rfl,g14⟩:=DB.out g13;obtain⟨rfl,h'⟩:=Zk.out g14;exact okJ (Λ:=(Ze.Λ2 K (Ze.l2 K k))) bZQ [] (Zb.cons e0 (Zb.cons e1 (Zb.cons e2 (Zb.cons e3 (Zb.cons e4 (Zb.cons e10 (Zb.cons e11 (Zb.nil _)))))))) h' (oC (fun E D H h=>by
      obtain⟨w0,e0,g1⟩:=DG.out h;obtain⟨A3,n3,m3,rfl,g2⟩:=DSl.out g1;obtain⟨x7,e1,g4⟩:=GI g2;obtain⟨x8,e2,g6⟩:=GI g4;obtain⟨x9,e3,g8⟩:=GI g6;obtain⟨w4,e4,g9⟩:=DG.out g8;obtain⟨fd3,F3,C3,rfl,g10⟩:=DFn.out g9;obtain⟨w10,e10,g11⟩:=DG.out g10;obtain⟨c3,rfl,g12⟩:=DB.out g11;obtain⟨w11,e11,g13⟩:=DG.out g12;obtain⟨c4,rfl,g14⟩:=DB.out g13;obtain⟨x10,e12,g16⟩:=GI g14;obtain⟨rfl,h'⟩:=Zk.out g16;exact okJ (Λ:=(Ze.Λ2 K (Ze.l2 K k))) bZQ [] (Zb.cons e0 (Zb.cons e1 (Zb.cons e2 (Zb.cons e3 (Zb.cons e4 (Zb.cons e10 (Zb.cons e11 (Zb.cons e12 (Zb.nil _))))))))) h' (oC (fun E D H h=>by
        obtain⟨w0,e0,g1⟩:=DG.out h;obtain⟨A4,n4,m4,rfl,g2⟩:=DSl.out g1;obtain⟨x13,e1,g4⟩:=GI g2;obtain⟨x14,e2,g6⟩:=GI g4;obtain⟨x15,e3,g8⟩:=GI g6;obtain⟨w4,e4,g9⟩:=DG.out g8;obtain⟨fd4,F4,C4,rfl,g10⟩:=DFn.out g9;obtain⟨w10,e10,g11⟩:=DG.out g10;obtain⟨c5,rfl,g12⟩:=DB.out g11;obtain⟨w11,e11,g13⟩:=DG.out g12;obtain⟨c6,rfl,g14⟩:=DB.out g13;obtain⟨x16,e12,g16⟩:=GI g14;obtain⟨x17,e13,g18⟩:=GI g16;obtain⟨x18,e14,g20⟩:=GI g18;obtain⟨rfl,h'⟩:=Zk.out g20;exact okJ (Λ:=(Ze.Λ2 K (Ze.l2 K k))) bZQ [] (Zb.cons e0 (Zb.cons e1 (Zb.cons e2 (Zb.cons e3 (Zb.cons e4 (Zb.cons e10 (Zb.cons e11 (Zb.cons e12 (Zb.cons e13 (Zb.cons e14 (Zb.nil _))))))))))) h' (oC (fun E D H h=>by
          obtain⟨w0,e0,g1⟩:=DG.out h;obtain⟨A5,n5,m5,rfl,g2⟩:=DSl.out g1;obtain⟨x19,e1,g4⟩:=GI g2;obtain⟨x20,e2,g6⟩:=GI g4;obtain⟨x21,e3,g8⟩:=GI g6;obtain⟨w4,e4,g9⟩:=DG.out g8;obtain⟨fd5,F5,C5,rfl,g10⟩:=DFn.out g9;obtain⟨w10,e10,g11⟩:=DG.out g10;obtain⟨c8,rfl,g12⟩:=DB.out g11;obtain⟨w11,e11,g13⟩:=DG.out g12;obtain⟨c9,rfl,g14⟩:=DB.out g13;obtain⟨x22,e12,g16⟩:=GI g14;obtain⟨x23,e13,g18⟩:=GI g16;obtain⟨rfl,h'⟩:=Zk.out g18;exact okJ (Λ:=(Ze.Λ2 K (Ze.l2 K k))) bZQ [] (Zb.cons e0 (Zb.cons e1 (Zb.cons e2 (Zb.cons e3 (Zb.cons e4 (Zb.cons e10 (Zb.cons e11 (Zb.cons e12 (Zb.cons e13 (Zb.nil _)))))))))) h' (oC (fun E D H h=>by
            obtain⟨w0,e0,g1⟩:=DG.out h;obtain⟨A6,n6,m6,rfl,g2⟩:=DSl.out g1;obtain⟨x26,e1,g4⟩:=GI g2;obtain⟨x27,e2,g6⟩:=GI g4;obtain⟨x28,e3,g8⟩:=GI g6;obtain⟨w4,e4,g9⟩:=DG.out g8;obtain⟨fd6,F6,C6,rfl,g10⟩:=DFn.out g9;obtain⟨x29,e12,g12⟩:=GI g10;obtain⟨x30,e13,g14⟩:=GI g12;obtain⟨rfl,h'⟩:=Zk.out g14;exact okJ (Λ:=(Ze.Λ2 K (Ze.l2 K k))) bZQ [] (Zb.cons e0 (Zb.cons e1 (Zb.cons e2 (Zb.cons e3 (Zb.cons e4 (Zb.cons e12 (Zb.cons e13 (Zb.nil _)))))))) h' oN) oN)) oN)) oN)) oN)) oN)
def Zf.l4 (K:VK)(R1:OA→Nat→Nat→Int→Int→FuncId→Array Value→Array Value→Int→Hp→Prop):Nat→OA→Nat→Nat→Int→Int→FuncId→Array Value→Array Value→Int→Int→Hp→Prop
 |0,_,_,_,_,_,_,_,_,_,_,_=>False
 |k+1,A3,n3,m3,x6,x7,fd3,F3,C3,x8,x9,H=>
  let R4:=Zf.l4 K R1 k
  BIf (decide (x9>x6)) (ixI x9 n3 (NN A3 fun a1=>LdA H (a1.add (x9.toNat*8)) 8 fun l1=>ixI (i64.wrap (x9-1)) n3 (NN A3 fun a2=>LdA H (a2.add ((i64.wrap (x9-1)).toNat*8)) 8 fun l2=>dZJ Tryz.prog fd3 ((F3++ #[.agg l1.toArray,.agg l2.toArray])++C3) H fun v1 H1=>DR Tryz.prog (bZv Tryz.prog fd3) v1 fun v2=>DI .i64 v2 fun x10=>BIf (decide (x10<0)) (ixI (i64.wrap (x9-1)) n3 (NN A3 fun a3=>ixI x9 n3 (NN A3 fun a4=>(LdA H1 (a3.add ((i64.wrap (x9-1)).toNat*8)) 8 fun l3=>LdA H1 (a4.add (x9.toNat*8)) 8 fun l4=>ixI x9 n3 (NN A3 fun a5=>StA H1 (a5.add (x9.toNat*8)) l3.toArray 8 fun H2=>ixI (i64.wrap (x9-1)) n3 (NN A3 fun a6=>StA H2 (a6.add ((i64.wrap (x9-1)).toNat*8)) l4.toArray 8 fun H3=>R4 A3 n3 m3 x6 x7 fd3 F3 C3 x8 (i64.wrap (x9-1)) H3)))∧(LdA H1 (a4.add (x9.toNat*8)) 8 fun l5=>LdA H1 (a3.add ((i64.wrap (x9-1)).toNat*8)) 8 fun l6=>ixI x9 n3 (NN A3 fun a7=>StA H1 (a7.add (x9.toNat*8)) l6.toArray 8 fun H4=>ixI (i64.wrap (x9-1)) n3 (NN A3 fun a8=>StA H4 (a8.add ((i64.wrap (x9-1)).toNat*8)) l5.toArray 8 fun H5=>R4 A3 n3 m3 x6 x7 fd3 F3 C3 x8 (i64.wrap (x9-1)) H5)))))) (R1 A3 n3 m3 x6 x7 fd3 F3 C3 (i64.wrap (x8+1)) H1)))) (R1 A3 n3 m3 x6 x7 fd3 F3 C3 (i64.wrap (x8+1)) H)
def Zf.l1 (K:VK):Nat→OA→Nat→Nat→Int→Int→FuncId→Array Value→Array Value→Int→Hp→Prop
 |0,_,_,_,_,_,_,_,_,_,_=>False
 |k+1,A2,n2,m2,x3,x4,fd2,F2,C2,x5,H=>
  let R1:=Zf.l1 K k
  BIf (decide (x5<x4)) ((∃ k,Zf.l4 K R1 k A2 n2 m2 x3 x4 fd2 F2 C2 x5 x5 H)) (K (.tuple #[]) H)
def Zf (A1:OA)(n1 m1:Nat)(x1 x2:Int)(fd1:FuncId)(F1 C1:Array Value)(H:Hp)(K:VK):Prop:=
 (∃ k,Zf.l1 K k A1 n1 m1 x1 x2 fd1 F1 C1 (i64.wrap (x1+1)) H)
def Zf.l1.L (K:VK)(k:Nat):Mid:=fun E D H=>
 DG (E.get? 0) fun w0=>DSl w0 fun A2 n2 m2=>eI E 1 .i64 fun x3=>eI E 2 .i64 fun x4=>DG (E.get? 3) fun w3=>DFn w3 fun fd2 F2 C2=>eI E 8 .i64 fun x5=>Zk D (Zf.l1 K k A2 n2 m2 x3 x4 fd2 F2 C2 x5 H)
def Zf.l4.L (K:VK)(R1:OA→Nat→Nat→Int→Int→FuncId→Array Value→Array Value→Int→Hp→Prop)(k:Nat):Mid:=fun E D H=>
 DG (E.get? 0) fun w0=>DSl w0 fun A3 n3 m3=>eI E 1 .i64 fun x6=>eI E 2 .i64 fun x7=>DG (E.get? 3) fun w3=>DFn w3 fun fd3 F3 C3=>eI E 8 .i64 fun x8=>eI E 9 .i64 fun x9=>Zk D (Zf.l4 K R1 k A3 n3 m3 x6 x7 fd3 F3 C3 x8 x9 H)
def Zf.Λ4 (_:VK)(_R1:OA→Nat→Nat→Int→Int→FuncId→Array Value→Array Value→Int→Hp→Prop)(_R4:OA→Nat→Nat→Int→Int→FuncId→Array Value→Array Value→Int→Int→Hp→Prop):Zt:=Zt.none (fun i=>match Nat.beq i 6 with|true=>some ([],[0,0,0,0,8,0,0,64,224,480,0,0,3072,7168,16355,32739,65535,131071],0)|false=>match Nat.beq i 4 with|true=>some ([],[0,1,2,3,4,5,6,7,8,9,10,11,12,13],14)|false=>none)
def Zf.Λ1 (K:VK)(R1:OA→Nat→Nat→Int→Int→FuncId→Array Value→Array Value→Int→Hp→Prop):Zt:=⟨fun i=>none,fun i=>match Nat.beq i 4 with|true=>some (fun E D H=>∃ k,Zf.l4.L K R1 k E D H)|false=>none,(fun i=>match Nat.beq i 6 with|true=>some ([],[0,0,0,0,8,0,0,64,224,480,0,0,3072,7168,16355,32739,65535,131071],0)|false=>match Nat.beq i 4 with|true=>some ([],[0,1,2,3,4,5,6,7,8,9,10,11,12,13],14)|false=>none)⟩
def Zf.Λ (K:VK):Zt:=⟨fun i=>none,fun i=>match Nat.beq i 1 with|true=>some (fun E D H=>∃ k,Zf.l1.L K k E D H)|false=>none,(fun i=>match Nat.beq i 6 with|true=>some ([],[0,0,0,0,8,0,0,64,224,480,0,0,3072,7168,16355,32739,65535,131071],0)|false=>match Nat.beq i 4 with|true=>some ([],[0,1,2,3,4,5,6,7,8,9,10,11,12,13],14)|false=>none)⟩
theorem Zf.ok A1 n1 m1 x1 x2 fd1 F1 C1 H K (h:Zf A1 n1 m1 x1 x2 fd1 F1 C1 H K):Za Tryz.prog 195 #[.slice A1 n1 m1,.int .i64 x1,.int .i64 x2,.func (.func fd1) F1 C1] H K:=
 okL (Λ:=(Zf.Λ K)) bZQ Tryz.func195 rfl rfl h (oC (fun E D H h=>by
   refine Safe.loop' (Zf.l1.L K) (fun E D H h=>?_) (fun k E D H h=>?_) E D H h
   ·obtain⟨w0,e0,g1⟩:=DG.out h;obtain⟨A2,n2,m2,rfl,g2⟩:=DSl.out g1;obtain⟨w1,e1,g3⟩:=DG.out g2;obtain⟨x3,rfl,g4⟩:=DI.out g3;obtain⟨w2,e2,g5⟩:=DG.out g4;obtain⟨x4,rfl,g6⟩:=DI.out g5;obtain⟨w3,e3,g7⟩:=DG.out g6;obtain⟨fd2,F2,C2,rfl,g8⟩:=DFn.out g7;obtain⟨w8,e8,g9⟩:=DG.out g8;obtain⟨x5,rfl,g10⟩:=DI.out g9;obtain⟨rfl,h'⟩:=Zk.out g10;exact h'
   ·obtain⟨w0,e0,g1⟩:=DG.out h;obtain⟨A2,n2,m2,rfl,g2⟩:=DSl.out g1;obtain⟨x3,e1,g4⟩:=GI g2;obtain⟨x4,e2,g6⟩:=GI g4;obtain⟨w3,e3,g7⟩:=DG.out g6;obtain⟨fd2,F2,C2,rfl,g8⟩:=DFn.out g7;obtain⟨x5,e8,g10⟩:=GI g8;obtain⟨rfl,h'⟩:=Zk.out g10;exact okJ (Λ:=(Zf.Λ1 K (Zf.l1 K k))) bZQ [] (Zb.cons e0 (Zb.cons e1 (Zb.cons e2 (Zb.cons e3 (Zb.cons e8 (Zb.nil _)))))) h' (oC (fun E D H h=>by
      refine Safe.loop' (Zf.l4.L K (Zf.l1 K k)) (fun E D H h=>?_) (fun k E D H h=>?_) E D H h
      ·obtain⟨w0,e0,g1⟩:=DG.out h;obtain⟨A3,n3,m3,rfl,g2⟩:=DSl.out g1;obtain⟨w1,e1,g3⟩:=DG.out g2;obtain⟨x6,rfl,g4⟩:=DI.out g3;obtain⟨w2,e2,g5⟩:=DG.out g4;obtain⟨x7,rfl,g6⟩:=DI.out g5;obtain⟨w3,e3,g7⟩:=DG.out g6;obtain⟨fd3,F3,C3,rfl,g8⟩:=DFn.out g7;obtain⟨w8,e8,g9⟩:=DG.out g8;obtain⟨x8,rfl,g10⟩:=DI.out g9;obtain⟨w9,e9,g11⟩:=DG.out g10;obtain⟨x9,rfl,g12⟩:=DI.out g11;obtain⟨rfl,h'⟩:=Zk.out g12;exact h'
      ·obtain⟨w0,e0,g1⟩:=DG.out h;obtain⟨A3,n3,m3,rfl,g2⟩:=DSl.out g1;obtain⟨x6,e1,g4⟩:=GI g2;obtain⟨x7,e2,g6⟩:=GI g4;obtain⟨w3,e3,g7⟩:=DG.out g6;obtain⟨fd3,F3,C3,rfl,g8⟩:=DFn.out g7;obtain⟨x8,e8,g10⟩:=GI g8;obtain⟨x9,e9,g12⟩:=GI g10;obtain⟨rfl,h'⟩:=Zk.out g12;exact okJ (Λ:=(Zf.Λ4 K (Zf.l1 K k) (Zf.l4 K (Zf.l1 K k) k))) bZQ [] (Zb.cons e0 (Zb.cons e1 (Zb.cons e2 (Zb.cons e3 (Zb.cons e8 (Zb.cons e9 (Zb.nil _))))))) h' oN) oN)) oN)
end Go.Proofs.YtgfildcgihbdaaaGreatDoor.W
namespace Go.Proofs.YtgfildcgihbdaaaGreatDoor.W
open Go Go.Hw
theorem oZB :Tryz.prog.follows .mixedOrders=true:=by kernel_rfl
def cZX (x1 x2:Int)(H:Hp)(K:VK):Prop:=
 HcB 180 #[.int .u64 x1] H fun c1 H1=>HcB 180 #[.int .u64 x2] H1 fun c2 H2=>BIf c1 (BIf c2 (K (.int .i64 0) H2) (K (.int .i64 (-1)) H2)) (BIf c2 (K (.int .i64 1) H2) (BIf (decide (x1<x2)) (K (.int .i64 (-1)) H2) (BIf (decide (x1>x2)) (K (.int .i64 1) H2) (K (.int .i64 0) H2))))
theorem cZX.ok x1 x2 H K (h:cZX x1 x2 H K):Za Tryz.prog 141 #[.int .u64 x1,.int .u64 x2] H K:=
 okN oZB Tryz.func141 rfl rfl h
def dZs (x1:Int)(H:Hp)(K:VK):Prop:=
 K (.bool (x1 !=x1)) H
theorem dZs.ok x1 H K (h:dZs x1 H K):Za Tryz.prog 180 #[.int .u64 x1] H K:=
 okN oZB Tryz.func180 rfl rfl h
end Go.Proofs.YtgfildcgihbdaaaGreatDoor.W
namespace Go.Proofs.YtgfildcgihbdaaaGreatDoor.W
open Go Go.Hw
theorem cZR :Tryz.prog.follows .mixedOrders=true:=by kernel_rfl
def ZN.l2.q1 (p4:OA)(x5 x3:Int)(A1:OA)(n1 m1:Nat)(H1:Hp)(K:VK)(R2:OA→Int→Int→Hp→Prop)(p2:OA)(x2:Int):=
 HcI 45 #[.pointer p4,.int .i64 (i64.wrap (x5+x3)),.slice A1 n1 m1] H1 fun x6 H2=>BIf (x6 !=0) (K (.int .i64 x6) H2) (R2 p2 x2 (i64.wrap (x3+1)) H2)
def ZN.l2 (K:VK):Nat→OA→Int→Int→Hp→Prop
 |0,_,_,_,_=>False
 |k+1,p2,x2,x3,H=>
  let R2:=ZN.l2 K k
  BIf (decide (x3<x2)) (NN p2 fun a2=>NN p2 fun a3=>NN p2 fun a4=>LeP H (a4.add 3) fun p3=>NN p3 fun a5=>QcI 42 #[.pointer (some (a5.add 0))] H fun x4=>(LeP H (a2.add 3) fun p4=>(LeI H ((a3.add 0).add 0) fun x5=>MkS Tryz.prog 5 x4 x4 H fun v6 H1=>DSl v6 fun A1 n1 m1=>ZN.l2.q1 p4 x5 x3 A1 n1 m1 H1 K R2 p2 x2)∧(MkS Tryz.prog 5 x4 x4 H fun v8 H3=>DSl v8 fun A2 n2 m2=>LeI H3 ((a3.add 0).add 0) fun x7=>ZN.l2.q1 p4 x7 x3 A2 n2 m2 H3 K R2 p2 x2))∧(LeI H ((a3.add 0).add 0) fun x9=>(LeP H (a2.add 3) fun p5=>MkS Tryz.prog 5 x4 x4 H fun v13 H5=>DSl v13 fun A3 n3 m3=>ZN.l2.q1 p5 x9 x3 A3 n3 m3 H5 K R2 p2 x2)∧(MkS Tryz.prog 5 x4 x4 H fun v15 H7=>DSl v15 fun A4 n4 m4=>LeP H7 (a2.add 3) fun p6=>ZN.l2.q1 p6 x9 x3 A4 n4 m4 H7 K R2 p2 x2))∧(MkS Tryz.prog 5 x4 x4 H fun v18 H9=>DSl v18 fun A5 n5 m5=>LeP H9 (a2.add 3) fun p7=>LeI H9 ((a3.add 0).add 0) fun x12=>ZN.l2.q1 p7 x12 x3 A5 n5 m5 H9 K R2 p2 x2)) (NN p2 fun a6=>LeP H (a6.add 3) fun p8=>HcI 47 #[.pointer p8] H fun x14 H11=>K (.int .i64 x14) H11)
def ZN (p1:OA)(H:Hp)(K:VK):Prop:=
 NN p1 fun a1=>LeI H ((a1.add 0).add 1) fun x1=>(∃ k,ZN.l2 K k p1 x1 0 H)
def ZN.l2.L (K:VK)(k:Nat):Mid:=fun E D H=>
 eP E 0 fun p2=>eI E 9 .i64 fun x2=>eI E 10 .i64 fun x3=>Zk D (ZN.l2 K k p2 x2 x3 H)
def ZN.Λ2 (_:VK)(_R2:OA→Int→Int→Hp→Prop):Zt:=Zt.none (fun i=>match Nat.beq i 4 with|true=>some ([3,8,14,17],[0,1,3,7,0,16,48,112,240,0,1008,0,2048,6144,14336,30720,63488,129024,260096,524287,1048575],0)|false=>none)
def ZN.Λ (K:VK):Zt:=⟨fun i=>none,fun i=>match Nat.beq i 2 with|true=>some (fun E D H=>∃ k,ZN.l2.L K k E D H)|false=>none,(fun i=>match Nat.beq i 4 with|true=>some ([3,8,14,17],[0,1,3,7,0,16,48,112,240,0,1008,0,2048,6144,14336,30720,63488,129024,260096,524287,1048575],0)|false=>none)⟩
theorem ZN.ok p1 H K (h:ZN p1 H K):Za Tryz.prog 48 #[.pointer p1] H K:=
 okL (Λ:=(ZN.Λ K)) cZR Tryz.func48 rfl rfl h (oC (fun E D H h=>by
   refine Safe.loop' (ZN.l2.L K) (fun E D H h=>?_) (fun k E D H h=>?_) E D H h
   ·obtain⟨w0,e0,g1⟩:=DG.out h;obtain⟨p2,rfl,g2⟩:=DP.out g1;obtain⟨w9,e9,g3⟩:=DG.out g2;obtain⟨x2,rfl,g4⟩:=DI.out g3;obtain⟨w10,e10,g5⟩:=DG.out g4;obtain⟨x3,rfl,g6⟩:=DI.out g5;obtain⟨rfl,h'⟩:=Zk.out g6;exact h'
   ·obtain⟨p2,e0,g2⟩:=GP h;obtain⟨x2,e9,g4⟩:=GI g2;obtain⟨x3,e10,g6⟩:=GI g4;obtain⟨rfl,h'⟩:=Zk.out g6;exact okJ (Λ:=(ZN.Λ2 K (ZN.l2 K k))) cZR [] (Zb.cons e0 (Zb.cons e9 (Zb.cons e10 (Zb.nil _)))) h' oN) oN)
def bZO.q1 (H2:Hp)(b1:Nat)(K:VK)(x1:Int):=
 StA H2 ⟨b1,0,none⟩ #[.int .u64 0,.int .i64 0,.int .i64 0,.int .i64 0,.int .i64 0,.int .u32 0,.int .u32 0,.int .u32 0] 8 fun H3=>LdA H3 ⟨b1,0,none⟩ 8 fun l5=>K (.tuple #[.agg l5.toArray,.bool false,.int .i64 x1]) H3
def bZO (p1:OA)(H:Hp)(K:VK):Prop:=
 Nw H (.obj (.cells #[.int .u64 0,.int .i64 0,.int .i64 0,.int .i64 0,.int .i64 0,.int .u32 0,.int .u32 0,.int .u32 0] 102)) fun b1 H1=>Hz 93 #[.pointer p1] H1 fun v1 H2=>dZ7 v1 fun A1 n1 m1 x1=>(BIf (x1 !=0) (bZO.q1 H2 b1 K x1) (BIf ((n1:Int)==0) (bZO.q1 H2 b1 K x1) (ixI (i64.wrap ((n1:Int)-1)) n1 (NN A1 fun a1=>LdA H2 (a1.add ((i64.wrap ((n1:Int)-1)).toNat*8)) 8 fun l4=>StA H2 ⟨b1,0,none⟩ l4.toArray 8 fun H5=>LdA H5 ⟨b1,0,none⟩ 8 fun l7=>K (.tuple #[.agg l7.toArray,.bool true,.int .i64 0]) H5))))
theorem bZO.ok p1 H K (h:bZO p1 H K):Za Tryz.prog 65 #[.pointer p1] H K:=
 okN cZR Tryz.func65 rfl rfl h
def hZl (p1:OA)(x1 x2 x3:Int)(H:Hp)(K:VK):Prop:=
 Nw H (.obj (.cells #[.int .i64 x1,.int .i64 x2,.int .i64 x3] 87)) fun b1 H1=>BIf p1.isNone (K (.tuple #[.pointer none,.int .i64 1]) H1) (LeI H1 ((⟨b1,0,none⟩:Addr).add 1) fun x4=>BIf (decide (x4<2)) (K (.tuple #[.pointer none,.int .i64 2]) H1) (LeI H1 ((⟨b1,0,none⟩:Addr).add 0) fun x5=>BIf (decide (x5<0)) (K (.tuple #[.pointer none,.int .i64 2]) H1) (LeI H1 ((⟨b1,0,none⟩:Addr).add 0) fun x6=>NN p1 fun a1=>QcI 41 #[.pointer (some (a1.add 0))] H1 fun x7=>BIf (decide (x6≥x7)) (K (.tuple #[.pointer none,.int .i64 2]) H1) (LeI H1 ((⟨b1,0,none⟩:Addr).add 1) fun x8=>NN p1 fun a2=>QcI 41 #[.pointer (some (a2.add 0))] H1 fun x9=>LeI H1 ((⟨b1,0,none⟩:Addr).add 0) fun x10=>BIf (decide (x8>(i64.wrap (x9-x10)))) (K (.tuple #[.pointer none,.int .i64 2]) H1) (LdA H1 ⟨b1,0,none⟩ 3 fun l1=>gZD l1.toArray.toList fun x11 x12 x13=>(Nw H1 (.obj (.cells #[.int .i64 x11,.int .i64 x12,.int .i64 x13,.pointer p1] 146)) fun b2 H2=>K (.tuple #[.pointer (some ⟨b2,0,none⟩),.int .i64 0]) H2))))))
theorem hZl.ok p1 x1 x2 x3 H K (h:hZl p1 x1 x2 x3 H K):Za Tryz.prog 72 #[.pointer p1,.agg #[.int .i64 x1,.int .i64 x2,.int .i64 x3]] H K:=
 okN cZR Tryz.func72 rfl rfl h
def ZJ.j9 (K:VK)(p5:OA)(a5:Addr)(A5:OA)(n5 m5:Nat)(H:Hp):=
 NN p5 fun a6=>LeP H (a6.add 3) fun p6=>LeW H (a5.add 0) fun x13=>QcI 111 #[.pointer p5,.int .u64 x13] H fun x14=>HcI 45 #[.pointer p6,.int .i64 x14,.slice A5 n5 m5] H fun x15 H12=>BIf (x15 !=0) (K (.int .i64 x15) H12) (NN p5 fun a7=>LeP H12 (a7.add 3) fun p7=>HcI 47 #[.pointer p7] H12 fun x16 H13=>K (.int .i64 x16) H13)
def ZJ.j2 (K:VK)(p4:OA)(a4:Addr)(A4:OA)(n4 m4:Nat)(x7:Int)(H:Hp):=
 BIf (x7 !=0) (K (.int .i64 10) H) (Hz 65 #[.pointer p4] H fun v15 H8=>qZC v15 fun y2 c1 x8=>(Nw H8 (.obj (.cells #[.int .u64 0,.int .i64 0,.int .i64 0,.int .i64 0,.int .i64 0,.int .u32 0,.int .u32 0,.int .u32 0] 102)) fun b2 H9=>StA H9 ⟨b2,0,none⟩ y2 8 fun H10=>BIf (x8 !=0) (K (.int .i64 x8) H10) (BIf c1 (LdA H10 ⟨b2,0,none⟩ 8 fun l17=>LdA H10 a4 8 fun l18=>HcB 110 #[.agg l17.toArray,.agg l18.toArray] H10 fun c2 H11=>BIf (!c2) (K (.int .i64 5) H11) (BIf (!c1) (LeW H11 (a4.add 0) fun x9=>BIf (x9 !=1) (K (.int .i64 5) H11) (LeI H11 (a4.add 1) fun x11=>BIf (x11 !=1) (K (.int .i64 5) H11) (ZJ.j9 K p4 a4 A4 n4 m4 H11))) (ZJ.j9 K p4 a4 A4 n4 m4 H11))) (BIf (!c1) (LeW H10 (a4.add 0) fun x10=>BIf (x10 !=1) (K (.int .i64 5) H10) (LeI H10 (a4.add 1) fun x12=>BIf (x12 !=1) (K (.int .i64 5) H10) (ZJ.j9 K p4 a4 A4 n4 m4 H10))) (ZJ.j9 K p4 a4 A4 n4 m4 H10)))))
def ZJ.q1 (l1:List Value)(x1:Int)(H2:Hp)(K:VK)(p1:OA)(b1:Nat):=
 Hz 109 #[.agg l1.toArray,.int .i64 x1] H2 fun v3 H3=>dZ7 v3 fun A1 n1 m1 x2=>(ZJ.j2 K p1 ⟨b1,0,none⟩ A1 n1 m1 x2 H3)
def ZJ (p1:OA)(y1:Array Value)(H:Hp)(K:VK):Prop:=
 Nw H (.obj (.cells y1 102)) fun b1 H1=>NN p1 fun a1=>(LdA H1 ⟨b1,0,none⟩ 8 fun l1=>LeP H1 (a1.add 3) fun p2=>NN p2 fun a2=>HcI 42 #[.pointer (some (a2.add 0))] H1 fun x1 H2=>ZJ.q1 l1 x1 H2 K p1 b1)∧(LeP H1 (a1.add 3) fun p3=>NN p3 fun a3=>(LdA H1 ⟨b1,0,none⟩ 8 fun l5=>HcI 42 #[.pointer (some (a3.add 0))] H1 fun x3 H4=>ZJ.q1 l5 x3 H4 K p1 b1)∧(HcI 42 #[.pointer (some (a3.add 0))] H1 fun x5 H6=>LdA H6 ⟨b1,0,none⟩ 8 fun l9=>ZJ.q1 l9 x5 H6 K p1 b1))
def ZJ.Λ (K:VK):Zt:=⟨fun i=>match Nat.beq i 9 with|true=>some (fun E D H=>eP E 0 fun p5=>eN E 3 fun a5=>DG (E.get? 5) fun w5=>DSl w5 fun A5 n5 m5=>Zk D (ZJ.j9 K p5 a5 A5 n5 m5 H))|false=>match Nat.beq i 2 with|true=>some (fun E D H=>eP E 0 fun p4=>eN E 3 fun a4=>DG (E.get? 5) fun w5=>DSl w5 fun A4 n4 m4=>eI E 6 .i64 fun x7=>Zk D (ZJ.j2 K p4 a4 A4 n4 m4 x7 H))|false=>none,fun i=>none,(fun i=>match Nat.beq i 9 with|true=>some ([],[0,1,2,3,4,5,6,7,8],9)|false=>match Nat.beq i 1 with|true=>some ([],[0,0,2,6,14,30,62,126,255,511,1023,1023,2047,8191],0)|false=>none)⟩
theorem ZJ.ok p1 y1 H K (h:ZJ p1 y1 H K):Za Tryz.prog 81 #[.pointer p1,.agg y1] H K:=
 okL (Λ:=(ZJ.Λ K)) cZR Tryz.func81 rfl rfl h (oC (fun E D H h=>by
   obtain⟨p4,e0,g2⟩:=GP h;obtain⟨a4,e3,g5⟩:=GN g2;obtain⟨w5,e5,g6⟩:=DG.out g5;obtain⟨A4,n4,m4,rfl,g7⟩:=DSl.out g6;obtain⟨x7,e6,g9⟩:=GI g7;obtain⟨rfl,h'⟩:=Zk.out g9;exact okJ (Λ:=(ZJ.Λ K)) cZR [] (Zb.cons e0 (Zb.cons e3 (Zb.cons e5 (Zb.cons e6 (Zb.nil _))))) h' (oC (fun E D H h=>by
     obtain⟨p5,e0,g2⟩:=GP h;obtain⟨a5,e3,g5⟩:=GN g2;obtain⟨w5,e5,g6⟩:=DG.out g5;obtain⟨A5,n5,m5,rfl,g7⟩:=DSl.out g6;obtain⟨rfl,h'⟩:=Zk.out g7;exact okJ (Λ:=(ZJ.Λ K)) cZR [] (Zb.cons e0 (Zb.cons e3 (Zb.cons e5 (Zb.nil _)))) h' oN) oN)) oN)
def ZM.j5 (K:VK)(R2:OA→OA→Nat→Nat→Int→Int→Hp→Prop)(p5 A4:OA)(n4 m4:Nat)(x8:Int)(A5:OA)(n5 m5:Nat)(x9 x10 x11:Int)(H:Hp):=
 BIf (x9 !=0) (K (.tuple #[.slice none 0 0,.int .i64 x9]) H) (Hz 138 #[.slice A5 n5 m5] H fun v12 H3=>cZ9 v12 fun y1 x12=>(Nw H3 (.obj (.cells #[.int .u64 0,.int .i64 0,.int .i64 0,.int .i64 0,.int .i64 0,.int .u32 0,.int .u32 0,.int .u32 0] 102)) fun b1 H4=>StA H4 ⟨b1,0,none⟩ y1 8 fun H5=>BIf (x12==0) (LeW H5 ((⟨b1,0,none⟩:Addr).add 0) fun x13=>QcI 111 #[.pointer p5,.int .u64 x13] H5 fun x14=>NN p5 fun a4=>LeI H5 ((a4.add 0).add 0) fun x15=>BIf (x14==(i64.wrap (x15+x8))) (LdA H5 ⟨b1,0,none⟩ 8 fun l10=>lZa l10.toArray.toList fun x16 x17 x18 x19 x20 x21 x22 x23=>(Nw H5 (.row [.int .u64 x16,.int .i64 x17,.int .i64 x18,.int .i64 x19,.int .i64 x20,.int .u32 x21,.int .u32 x22,.int .u32 x23] 102 8) fun b2 H6=>cZ8 Tryz.prog 102 (.slice A4 n4 m4) (.slice (some ⟨b2,0,none⟩) 1 1) H6 fun v26 H7=>DSl v26 fun A6 n6 m6=>R2 p5 A6 n6 m6 x10 (i64.wrap (x11+1)) H7)) (R2 p5 A4 n4 m4 x10 (i64.wrap (x11+1)) H5)) (R2 p5 A4 n4 m4 x10 (i64.wrap (x11+1)) H5)))
def ZM.l2 (K:VK):Nat→OA→OA→Nat→Nat→Int→Int→Hp→Prop
 |0,_,_,_,_,_,_,_=>False
 |k+1,p2,A1,n1,m1,x2,x3,H=>
  let R2:=ZM.l2 K k
  BIf (decide (x3<x2)) (NN p2 fun a2=>NN p2 fun a3=>(LeP H (a2.add 3) fun p3=>LeI H ((a3.add 0).add 0) fun x4=>Hz 91 #[.pointer p3,.int .i64 (i64.wrap (x4+x3))] H fun v4 H1=>dZ7 v4 fun A2 n2 m2 x5=>(ZM.j5 K R2 p2 A1 n1 m1 x3 A2 n2 m2 x5 x2 x3 H1))∧(LeI H ((a3.add 0).add 0) fun x6=>LeP H (a2.add 3) fun p4=>Hz 91 #[.pointer p4,.int .i64 (i64.wrap (x6+x3))] H fun v9 H2=>dZ7 v9 fun A3 n3 m3 x7=>(ZM.j5 K R2 p2 A1 n1 m1 x3 A3 n3 m3 x7 x2 x3 H2))) (Hz 139 #[.slice A1 n1 m1,.func (.func 140) #[] #[]] H fun v27 H8=>K (.tuple #[.slice A1 n1 m1,.int .i64 0]) H8)
def ZM (p1:OA)(H:Hp)(K:VK):Prop:=
 NN p1 fun a1=>LeI H ((a1.add 0).add 1) fun x1=>(∃ k,ZM.l2 K k p1 none 0 0 x1 0 H)
def ZM.l2.L (K:VK)(k:Nat):Mid:=fun E D H=>
 eP E 0 fun p2=>DG (E.get? 2) fun w2=>DSl w2 fun A1 n1 m1=>eI E 13 .i64 fun x2=>eI E 14 .i64 fun x3=>Zk D (ZM.l2 K k p2 A1 n1 m1 x2 x3 H)
def ZM.Λ2 (K:VK)(R2:OA→OA→Nat→Nat→Int→Int→Hp→Prop):Zt:=⟨fun i=>match Nat.beq i 5 with|true=>some (fun E D H=>eP E 0 fun p5=>DG (E.get? 2) fun w2=>DSl w2 fun A4 n4 m4=>eI E 4 .i64 fun x8=>DG (E.get? 5) fun w5=>DSl w5 fun A5 n5 m5=>eI E 6 .i64 fun x9=>eI E 13 .i64 fun x10=>eI E 14 .i64 fun x11=>Zk D (ZM.j5 K R2 p5 A4 n4 m4 x8 A5 n5 m5 x9 x10 x11 H))|false=>none,fun i=>none,(fun i=>match Nat.beq i 4 with|true=>some ([],[0,1,3,7,0,16,48,112,240,0,1008,2047,4095,8191,8191,16383,65535],0)|false=>none)⟩
def ZM.Λ (K:VK):Zt:=⟨fun i=>none,fun i=>match Nat.beq i 2 with|true=>some (fun E D H=>∃ k,ZM.l2.L K k E D H)|false=>none,(fun i=>match Nat.beq i 4 with|true=>some ([],[0,1,3,7,0,16,48,112,240,0,1008,2047,4095,8191,8191,16383,65535],0)|false=>none)⟩
theorem ZM.ok p1 H K (h:ZM p1 H K):Za Tryz.prog 93 #[.pointer p1] H K:=
 okL (Λ:=(ZM.Λ K)) cZR Tryz.func93 rfl rfl h (oC (fun E D H h=>by
   refine Safe.loop' (ZM.l2.L K) (fun E D H h=>?_) (fun k E D H h=>?_) E D H h
   ·obtain⟨w0,e0,g1⟩:=DG.out h;obtain⟨p2,rfl,g2⟩:=DP.out g1;obtain⟨w2,e2,g3⟩:=DG.out g2;obtain⟨A1,n1,m1,rfl,g4⟩:=DSl.out g3;obtain⟨w13,e13,g5⟩:=DG.out g4;obtain⟨x2,rfl,g6⟩:=DI.out g5;obtain⟨w14,e14,g7⟩:=DG.out g6;obtain⟨x3,rfl,g8⟩:=DI.out g7;obtain⟨rfl,h'⟩:=Zk.out g8;exact h'
   ·obtain⟨p2,e0,g2⟩:=GP h;obtain⟨w2,e2,g3⟩:=DG.out g2;obtain⟨A1,n1,m1,rfl,g4⟩:=DSl.out g3;obtain⟨x2,e13,g6⟩:=GI g4;obtain⟨x3,e14,g8⟩:=GI g6;obtain⟨rfl,h'⟩:=Zk.out g8;exact okJ (Λ:=(ZM.Λ2 K (ZM.l2 K k))) cZR [] (Zb.cons e0 (Zb.cons e2 (Zb.cons e13 (Zb.cons e14 (Zb.nil _))))) h' (oC (fun E D H h=>by
      obtain⟨p5,e0,g2⟩:=GP h;obtain⟨w2,e2,g3⟩:=DG.out g2;obtain⟨A4,n4,m4,rfl,g4⟩:=DSl.out g3;obtain⟨x8,e4,g6⟩:=GI g4;obtain⟨w5,e5,g7⟩:=DG.out g6;obtain⟨A5,n5,m5,rfl,g8⟩:=DSl.out g7;obtain⟨x9,e6,g10⟩:=GI g8;obtain⟨x10,e13,g12⟩:=GI g10;obtain⟨x11,e14,g14⟩:=GI g12;obtain⟨rfl,h'⟩:=Zk.out g14;exact okJ (Λ:=(ZM.Λ2 K (ZM.l2 K k))) cZR [] (Zb.cons e0 (Zb.cons e2 (Zb.cons e4 (Zb.cons e5 (Zb.cons e6 (Zb.cons e13 (Zb.cons e14 (Zb.nil _)))))))) h' oN) oN)) oN)
def eZb (p1:OA)(x1:Int)(H:Hp)(K:VK):Prop:=
 NN p1 fun a1=>LeI H ((a1.add 0).add 0) fun x2=>NN p1 fun a2=>LeI H ((a2.add 0).add 1) fun x3=>((u64.wrap x3)≠0∧u64=u64∧K (.int .i64 (i64.wrap (x2+(i64.wrap (Int.tmod (u64.wrap (x1-1)) (u64.wrap x3)))))) H)
theorem eZb.ok p1 x1 H K (h:eZb p1 x1 H K):Za Tryz.prog 111 #[.pointer p1,.int .u64 x1] H K:=
 okN cZR Tryz.func111 rfl rfl h
def dZy (y1 y2:Array Value)(H:Hp)(K:VK):Prop:=
 Nw H (.obj (.cells y1 102)) fun b1 H1=>Nw H1 (.obj (.cells y2 102)) fun b2 H2=>LeW H2 ((⟨b1,0,none⟩:Addr).add 0) fun x1=>LeW H2 ((⟨b2,0,none⟩:Addr).add 0) fun x2=>HcI 141 #[.int .u64 x1,.int .u64 x2] H2 fun x3 H3=>K (.int .i64 x3) H3
theorem dZy.ok y1 y2 H K (h:dZy y1 y2 H K):Za Tryz.prog 140 #[.agg y1,.agg y2] H K:=
 okN cZR Tryz.func140 rfl rfl h
end Go.Proofs.YtgfildcgihbdaaaGreatDoor.W
namespace Go.Proofs.YtgfildcgihbdaaaGreatDoor.Lib2
open Go Go.Proofs Go.Shelf Go.RowKit
def tZV :Go.Shelf.Ren:=⟨fun|129=>184|n=>n,fun|53=>82|3=>3|4=>4|46=>110|5=>5|9=>9|n=>n,fun|n=>n⟩
theorem xZJ :Go.Proofs.Lays.n129 Tryz.prog tZV where
 mixed:=by kernel_rfl
 f129:=Tryz.func184.trans (congrArg some (by kernel_rfl))
 t3:=Tryz.underlying3
 a3:=Tryz.isAgg3
 z3:=Tryz.sizeOf3
 v3:=Tryz.zeroValue3
 t4:=Tryz.underlying4
 a4:=Tryz.isAgg4
 z4:=Tryz.sizeOf4
 v4:=Tryz.zeroValue4
 t5:=Tryz.underlying5
 a5:=Tryz.isAgg5
 z5:=Tryz.sizeOf5
 v5:=Tryz.zeroValue5
 t9:=Tryz.underlying9
 a9:=Tryz.isAgg9
 z9:=Tryz.sizeOf9
 v9:=Tryz.zeroValue9
 t46:=Tryz.underlying110
 a46:=Tryz.isAgg110
 z46:=Tryz.sizeOf110
 v46:=Tryz.zeroValue110
 t53:=Tryz.underlying82
 a53:=Tryz.isAgg82
 z53:=Tryz.sizeOf82
 v53:=Tryz.zeroValue82
end Go.Proofs.YtgfildcgihbdaaaGreatDoor.Lib2
namespace Go.Hw
open Go Go.Proofs Go.Proofs.YtgfildcgihbdaaaGreatDoor.Lib2 Go.RowKit Go.Shelf
theorem tZu (x:Nat)(hx:x<18446744073709551616)(H:Hp):Za Tryz.prog 184 #[.int .u64 (x:Int)] H (RetE (.int .i64 (Lib.bitLen x:Int)) H):=fun w hw=>by
 refine(Any.bits_Len64 xZJ (x:Int) w (by omega) (by omega)).mono ?_;rintro e w' ⟨rfl,rfl⟩;exact⟨_,H,rfl,⟨by rw[Int.toNat_natCast],rfl⟩,At.refl hw⟩
end Go.Hw
namespace Go.Proofs.YtgfildcgihbdaaaGreatDoor.Srt
open Go Go.Hw W Rec
theorem Sep.wrR {L:List As}{H:Hp}(h:Hw.Sep L H)(i:Nat){e:TypeId}{s:Nat}{A:OA}{n m:Nat}{xs:List Value}(hi:L[i]? =some (Own e s A n m xs)){x:Int}{j:Nat}(hx:x=j)(hj:j<n){y:Array Value}(hy:y.size=s)(hv:y.toList.all (fun v=>v.oneCell')=true){K:Hp→Prop}
  (k:∀ H',Hw.Sep (L.set i (Own e s A n m (setAt xs (j*s) y.toList))) H'→K H'):ixI x n (NN A fun a=>StA H (a.add (x.toNat*s)) y s K):=by
 subst hx;refine⟨by omega,by omega,?_⟩;rcases h.unown i hi with⟨_,h0,_⟩|⟨b,mm,rfl,hmm,hlx,hs⟩
 ·omega
 rw[aZY,Addr.add_lit',Int.toNat_natCast,Nat.zero_add];have hlt:i<L.length:=(List.getElem?_eq_some_iff.1 hi).1;have hb:H b=some (.row xs e mm):=hs.get i (by rw[List.getElem?_set_self hlt]);have hjs:j*s+s≤n*s:=by
  have:=Nat.mul_le_mul_right s (show j+1≤n by omega)
  rwa [Nat.succ_mul]at this
 have hyl:y.toList.length=s:=by rw[Array.length_toList];exact hy
 refine⟨hy,?_⟩;rw[kZU y.toList 0 H xs hb (by omega) (fun v hq=>List.all_eq_true.1 hv v hq)];refine k _ ?_;have hs2:=hs.put i (.row (setAt xs (j*s+0) y.toList) e mm) (by rw[List.getElem?_set_self hlt]);have hs3:=hs2.turn i (by rw[List.getElem?_set_self (by rw[List.length_set];exact hlt)]) (B:=Own e s (some ⟨b,0,none⟩) n m (setAt xs (j*s) y.toList)) (fun H1 h1=>⟨by rw[cZH (by omega)];exact hlx,.inr ⟨b,mm,rfl,by rw[Nat.add_zero]at h1;exact h1,hmm⟩⟩);rw[List.set_set,List.set_set]at hs3;exact hs3
def cZk (l:List R):List Value:=l.flatMap fun r=>r.c.toList
theorem hZR :∀(l:List R) (j:Nat) (h:j<l.length),((cZk l).drop (j*8)).take 8=l[j].c.toList
 |r::l,0,_=>by
  show((r.c.toList++cZk l).drop (0*8)).take 8=_
  rw[Nat.zero_mul,List.drop_zero];exact List.take_left' rfl
 |r::l,j+1,h=>by
  have ih:=hZR l j (by simpa using h);show((r.c.toList++cZk l).drop ((j+1)*8)).take 8=_
  rw[show(j+1)*8=r.c.toList.length+j*8 by rw[show r.c.toList.length=8 from rfl];omega,←List.drop_drop,List.drop_left];exact ih
theorem kZW :∀(l:List R) (j:Nat) (q:R) (h:j<l.length),setAt (cZk l) (j*8) q.c.toList=cZk (l.set j q)
 |r::l,0,q,_=>by
  show setAt (r.c.toList++cZk l) (0*8) q.c.toList=q.c.toList++cZk l
  unfold setAt;rw[Nat.zero_mul,List.take_zero,List.nil_append,Nat.zero_add];congr 1
 |r::l,j+1,q,h=>by
  have ih:=kZW l j q (by simpa using h);show setAt (r.c.toList++cZk l) ((j+1)*8) q.c.toList=r.c.toList++cZk (l.set j q)
  rw[← ih];unfold setAt;have e:(j+1)*8=r.c.toList.length+j*8:=by rw[show r.c.toList.length=8 from rfl];omega
  rw[e,List.take_length_add_append,Nat.add_assoc,List.drop_length_add_append];simp
theorem eZ4 (r:R):r.c.toList.all (fun v=>v.oneCell')=true:=rfl
def dR :R:=⟨0,0,0,0,0,0,0,0⟩
def bub (l:List R):Nat→List R
 |0=>l
 |j+1=>if(l.getD (j+1) dR).s<(l.getD j dR).s then bub ((l.set (j+1) (l.getD j dR)).set j (l.getD (j+1) dR)) j else l
theorem vZm (j:Nat):∀ l,(bub l j).length=l.length:=by
 induction j with
 |zero=>intro l;rfl
 |succ j ih=>
  intro l;unfold bub;split
  ·rw[ih];simp
  ·rfl
def bZ1 (l:List R):Nat→List R
 |0=>l
 |i+1=>bZ1 l i|>fun q=>bub q (i+1)
theorem oZo (x:Int)(H:Hp):Za Tryz.prog 180 #[.int .u64 x] H (RetE (.bool false) H):=by
 apply dZs.ok;unfold dZs;simp only[bne_self_eq_false];exact RetE.mk _ _
def qZI (a b:Nat):Int:=if a<b then -1 else if b<a then 1 else 0
theorem wZN (a b:Nat)(H:Hp):Za Tryz.prog 141 #[.int .u64 (a:Int),.int .u64 (b:Int)] H (RetE (.int .i64 (qZI a b)) H):=by
 apply cZX.ok;unfold cZX;refine Za.use (oZo _ H) ?_;simp only[HV];refine Za.use (oZo _ H) ?_;simp only[HV];unfold qZI;by_cases h1:a<b
 ·rw[if_pos h1];exact Zn (by omega) (RetE.mk _ _)
 ·rw[if_neg h1];refine Zh (by omega) ?_;by_cases h2:b<a
  ·rw[if_pos h2];exact Zn (by omega) (RetE.mk _ _)
  ·rw[if_neg h2];exact Zh (by omega) (RetE.mk _ _)
theorem vZC (a b:R)(H:Hp):Za Tryz.prog 140 #[.agg a.c,.agg b.c] H (RetE (.int .i64 (qZI a.s b.s)) H):=Za.ret (by
 apply dZy.ok;unfold dZy;refine(Sep.start H).nw fun b1 H1 hs=>?_
 refine hs.nw fun b2 H1 hs=>?_
 refine hs.ldf 1 rfl rfl ?_;simp only[HV];refine hs.ldf 2 rfl rfl ?_;simp only[HV];refine Za.use (wZN a.s b.s H1) ?_;simp only[HV];exact hs.fin 0 rfl _)
end Go.Proofs.YtgfildcgihbdaaaGreatDoor.Srt
namespace Go.Proofs.YtgfildcgihbdaaaGreatDoor.Srt
open Go Go.Hw W Rec
theorem pZS (l:List R){j:Nat}(h:j<l.length):l.getD j dR=l[j]:=by
 rw[List.getD_eq_getElem?_getD,List.getElem?_eq_getElem h];rfl
theorem mZW (A:OA)(n m i:Nat)(hn:n≤1000)(K:VK)(R1:OA→Nat→Nat→Int→Int→FuncId→Array Value→Array Value→Int→Hp→Prop)(fin:List R)
  (k:∀ H',Hw.Sep [Own 102 8 A n m (cZk fin)] H'→R1 A n m 0 (n:Int) 140 #[] #[] (i64.wrap ((i:Int)+1)) H'):
  ∀(j:Nat) (l:List R) (H:Hp),l.length=n→j<n→bub l j=fin→Hw.Sep [Own 102 8 A n m (cZk l)] H→
   Zf.l4 K R1 (j+1) A n m 0 (n:Int) 140 #[] #[] (i:Int) (j:Int) H
 |0,l,H,hl,hj,hf,hs=>by
  unfold Zf.l4;refine Zh (by omega) ?_;have hf:l=fin:=hf;rw[hf]at hs;exact k H hs
 |j+1,l,H,hl,hj,hf,hs=>by
  unfold Zf.l4;refine Zn (by omega) ?_;have hj1:j+1<l.length:=by omega
  have hj0:j<l.length:=by omega
  have ej:i64.wrap (((j+1:Nat):Int)-1)=(j:Int):=by rw[ZG (by omega) (by omega)];omega
  rw[ej];have ho:=hs.own 0 rfl;refine ho.rdA rfl hj (hZR l (j+1) hj1) ?_;refine ho.rdA (j:=j) rfl (by omega) (hZR l j hj0) ?_;refine aZx (by kernel_rfl) ?_;rw[Array.toArray_toList,Array.toArray_toList];refine Za.use (vZC l[j+1] l[j] H) ?_;have hr:bZv Tryz.prog 140=[3]:=by kernel_rfl
  rw[hr];have hdt:∀(x:Int) (K:Value→Prop),K (.int .i64 x)→DR Tryz.prog [3] (.int .i64 x) K:=fun x K k=>by
   show DT Tryz.prog 3 (.int .i64 x) K
   unfold DT;rw[show Tryz.prog.underlying 3=some (.int .i64) by kernel_rfl];exact k
  refine hdt _ _ ?_;simp only[HV];unfold bub at hf;rw[pZS l hj1,pZS l hj0]at hf;unfold qZI;by_cases hlt:l[j+1].s<l[j].s
  ·rw[if_pos hlt]at hf⊢;refine Zn (by decide) ?_;have ix:∀{x:Int} {q:Nat} {P:Addr→Prop},x=q→q<n→(∀ b mm,A=some ⟨b,0,none⟩→P ⟨b,0,none⟩)→ixI x n (NN A P):=fun{x q P} hx hq hp=>by
    refine⟨by omega,by omega,?_⟩;rcases hs.unown 0 rfl with⟨_,h0,_⟩|⟨b,mm,rfl,_,_,_⟩
    ·omega
    ·rw[aZY];exact hp b mm rfl
   refine ix (q:=j) rfl (by omega) fun b mm hA=>?_
   subst hA;refine⟨by omega,by omega,?_⟩;rw[aZY];have hw1:=kZW l (j+1) l[j] hj1;have hw2:=kZW (l.set (j+1) l[j]) j l[j+1] (by rw[List.length_set];exact hj0);have go:∀ H1,Hw.Sep [Own 102 8 (some ⟨b,0,none⟩) n m (cZk l)] H1→
     ixI ((j+1:Nat):Int) n (NN (some (⟨b,0,none⟩:Addr)) fun a5=>StA H1 (a5.add (((j+1:Nat):Int).toNat*8)) l[j].c 8 fun H2=>ixI (j:Int) n (NN (some (⟨b,0,none⟩:Addr)) fun a6=>StA H2 (a6.add ((j:Int).toNat*8)) l[j+1].c 8 fun H3=>
      Zf.l4 K R1 (j+1) (some ⟨b,0,none⟩) n m 0 (n:Int) 140 #[] #[] (i:Int) (j:Int) H3)):=fun H1 hs=>by
    refine Sep.wrR hs 0 rfl rfl hj rfl (eZ4 _) fun H2 hs=>?_
    refine Sep.wrR hs 0 rfl rfl (show j<n by omega) rfl (eZ4 _) fun H3 hs=>?_
    simp only[List.set_cons_zero]at hs;rw[hw1,hw2]at hs;exact mZW (some ⟨b,0,none⟩) n m i hn K R1 fin k j _ H3 (by simp;exact hl) (by omega) hf hs
   have rd:∀{q:Nat} (hq:q<l.length) {P:List Value→Prop},P l[q].c.toList→LdA H ((⟨b,0,none⟩:Addr).add ((q:Int).toNat*8)) 8 P:=fun{q} hq {P} hp=>by
    have:=(hs.own 0 rfl).rdA (x:=(q:Int)) (j:=q) rfl (by omega) (hZR l q hq) (K:=P) hp;exact this.2.2
   refine⟨?_,?_⟩
   ·refine rd hj0 (rd hj1 ?_);rw[Array.toArray_toList,Array.toArray_toList];exact go H hs
   ·refine rd hj1 (rd hj0 ?_);rw[Array.toArray_toList,Array.toArray_toList];exact go H hs
  ·rw[if_neg hlt]at hf⊢;refine Zh (by split<;>decide) ?_;rw[hf]at hs;exact k H hs
end Go.Proofs.YtgfildcgihbdaaaGreatDoor.Srt
namespace Go.Proofs.YtgfildcgihbdaaaGreatDoor.Srt
open Go Go.Hw W Rec
theorem eZK :∀(i:Nat) (l:List R),(bZ1 l i).length=l.length
 |0,_=>rfl
 |i+1,l=>by
  show(bub (bZ1 l i) (i+1)).length=_
  rw[vZm,eZK i l]
theorem mZX (A:OA)(n m:Nat)(hn:n≤1000)(l:List R)(hl:l.length=n)(K:VK)(k:∀ H',Hw.Sep [Own 102 8 A n m (cZk (bZ1 l (n-1)))] H'→K (.tuple #[]) H'):
  ∀(t i:Nat) (H:Hp),i+t=n-1→Hw.Sep [Own 102 8 A n m (cZk (bZ1 l i))] H→
   Zf.l1 K (t+1) A n m 0 (n:Int) 140 #[] #[] ((i+1:Nat):Int) H
 |0,i,H,hi,hs=>by
  unfold Zf.l1;refine Zh (by omega) ?_;obtain rfl:i=n-1:=by omega
  exact k H hs
 |t+1,i,H,hi,hs=>by
  unfold Zf.l1;refine Zn (by omega) ⟨i+1+1,?_⟩;refine mZW A n m (i+1) hn K _ (bZ1 l (i+1)) (fun H' hs'=>?_) (i+1) (bZ1 l i) H (by rw[eZK];exact hl) (by omega) rfl hs;rw[ZG (by omega) (by omega),show((i+1:Nat):Int)+1=((i+1+1:Nat):Int) by omega];exact mZX A n m hn l hl K k t (i+1) H' (by omega) hs'
theorem nZ0 (x:Nat)(hx:x<18446744073709551616)(H:Hp):Za Tryz.prog 148 #[.int .u64 (x:Int)] H (RetE (.int .i64 (Go.Lib.bitLen x:Int)) H):=by
 apply cZM.ok;unfold cZM;refine Za.use (tZu x hx H) ?_;simp only[HV];exact RetE.mk _ _
theorem pZi (A:OA)(n m:Nat)(hn:n≤12)(l:List R)(hl:l.length=n):Tr Tryz.prog 139 #[.slice A n m,.func (.func 140) #[] #[]]
  [Own 102 8 A n m (cZk l)] fun v M=>v= .tuple #[]∧M=[Own 102 8 A n m (cZk (bZ1 l (n-1)))]:=fun H hs=>by
 apply bZf.ok;unfold bZf;rw[cZg (by omega)];refine Za.use (nZ0 n (by omega) H) ?_;simp only[HV];have hI:Za Tryz.prog 195 #[.slice A n m,.int .i64 0,.int .i64 (n:Int),.func (.func 140) #[] #[]] H (fun v H'=>v= .tuple #[]∧Hw.Sep [Own 102 8 A n m (cZk (bZ1 l (n-1)))] H'):=by
  apply Zf.ok;unfold Zf;rw[show i64.wrap ((0:Int)+1)=((0+1:Nat):Int) by decide];exact⟨n-1+1,mZX A n m (by omega) l hl _ (fun H' hs'=>⟨rfl,hs'⟩) (n-1) 0 H (by omega) hs⟩
 have hP:Za Tryz.prog 179 #[.slice A n m,.int .i64 0,.int .i64 (n:Int),.int .i64 (Go.Lib.bitLen n:Int),.func (.func 140) #[] #[]] H (fun v H'=>v= .tuple #[]∧Hw.Sep [Own 102 8 A n m (cZk (bZ1 l (n-1)))] H'):=by
  apply Ze.ok;unfold Ze;refine⟨1,?_⟩;unfold Ze.l2;refine Zn (by rw[ZG (by omega) (by omega)];omega) ?_;refine Za.mono hI ?_;rintro v H' ⟨rfl,h⟩;exact⟨rfl,h⟩
 refine Za.mono hP ?_;rintro v H' ⟨rfl,h⟩;exact⟨_,⟨by first|trivial|rfl,rfl⟩,h⟩
theorem swap_perm (l:List R){j:Nat}(h:j+1<l.length):((l.set (j+1) (l.getD j dR)).set j (l.getD (j+1) dR)).Perm l:=by
 induction l generalizing j with
 |nil=>simp at h
 |cons x l ih=>
  cases j with
  |zero=>
   cases l with
   |nil=>simp at h
   |cons y t=>exact List.Perm.swap x y t
  |succ j=>
   exact(ih (j:=j) (by simpa using h)).cons x
theorem tZJ (j:Nat):∀(l:List R),j<l.length→(bub l j).Perm l:=by
 induction j with
 |zero=>intro l _;exact List.Perm.refl _
 |succ j ih=>
  intro l h;unfold bub;split
  ·refine(ih _ (by simp;omega)).trans (swap_perm l h)
  ·exact List.Perm.refl _
theorem lZA (l:List R):∀ i,i<l.length∨i=0→(bZ1 l i).Perm l
 |0,_=>List.Perm.refl _
 |i+1,h=>by
  have ih:=lZA l i (by omega);show(bub (bZ1 l i) (i+1)).Perm l
  refine(tZJ (i+1) _ (by rw[eZK];omega)).trans ih
end Go.Proofs.YtgfildcgihbdaaaGreatDoor.Srt
namespace Go.Proofs.YtgfildcgihbdaaaGreatDoor.Srt
open Go Go.Hw Rec
def leR (a b:R):Prop:=a.s≤b.s
theorem pZL :∀(j:Nat) (p r:List R) (x:R),p.length=j→∃ p',bub (p++x::r) j=p'++r∧p'.length=j+1∧(p.Pairwise leR→p'.Pairwise leR)∧p'.Perm (x::p)
 |0,p,r,x,h=>by
  rw[List.length_eq_zero_iff.1 h];exact⟨[x],rfl,rfl,fun _=>by simp,List.Perm.refl _⟩
 |j+1,p,r,x,h=>by
  obtain⟨q,y,rfl⟩:∃ q y,p=q++[y]:=⟨_,_,(List.dropLast_concat_getLast (by intro e;rw[e]at h;cases h)).symm⟩;have hq:q.length=j:=by simpa using h
  have e0:q++[y]++x::r=q++y::x::r:=by simp
  rw[e0];unfold bub;have g1:(q++y::x::r).getD (j+1) dR=x:=by rw[List.getD_eq_getElem?_getD,List.getElem?_append_right (by omega),hq,show j+1-j=1 by omega];rfl
  have g0:(q++y::x::r).getD j dR=y:=by rw[List.getD_eq_getElem?_getD,List.getElem?_append_right (by omega),hq,Nat.sub_self];rfl
  rw[g1,g0];by_cases hxy:x.s<y.s
  ·rw[if_pos hxy];have es:((q++y::x::r).set (j+1) y).set j x=q++x::y::r:=by
    rw[List.set_append_right _ _ (by omega),hq,show j+1-j=1 by omega,List.set_append_right _ _ (by omega),hq,Nat.sub_self];rfl
   rw[es];obtain⟨p'',h1,h2,h3,h4⟩:=pZL j q (y::r) x hq;refine⟨p''++[y],by rw[h1];simp,by simp[h2],fun hs=>?_,?_⟩
   ·rw[List.pairwise_append]at hs⊢;obtain⟨s1,_,s3⟩:=hs;refine⟨h3 s1,by simp,fun a ha b hb=>?_⟩;have hb':b=y:=by simpa using hb
    subst hb';rcases List.mem_cons.1 (h4.mem_iff.1 ha)with rfl|ha
    ·exact Nat.le_of_lt hxy
    ·exact s3 a ha b (by simp)
   ·have:(p''++[y]).Perm ((x::q)++[y]):=h4.append_right [y];simpa using this
  ·rw[if_neg hxy];refine⟨q++[y,x],by simp,by simp[hq],fun hs=>?_,?_⟩
   ·rw[List.pairwise_append]at hs⊢;obtain⟨s1,_,s3⟩:=hs;have hyx:leR y x:=Nat.not_lt.1 hxy;refine⟨s1,by simp[hyx],fun a ha b hb=>?_⟩;have hay:=s3 a ha y (by simp);have:b=y∨b=x:=by simpa using hb
    rcases this with rfl|rfl
    ·exact hay
    ·exact Nat.le_trans hay hyx
   ·have:(q++[y]++[x]).Perm (x::(q++[y])):=List.perm_append_comm;simpa using this
theorem mZZ :∀(i:Nat) (l:List R),i<l.length→∃ p r,bZ1 l i=p++r∧p.length=i+1∧p.Pairwise leR
 |0,l,h=>by
  cases l with
  |nil=>simp at h
  |cons x t=>exact⟨[x],t,rfl,rfl,by simp⟩
 |i+1,l,h=>by
  obtain⟨p,r,h1,h2,h3⟩:=mZZ i l (by omega);have hlen:=eZK i l;cases r with
  |nil=>
   rw[h1,List.append_nil,h2]at hlen;omega
  |cons x r=>
   obtain⟨p',g1,g2,g3,_⟩:=pZL (i+1) p r x h2;refine⟨p',r,?_,g2,g3 h3⟩;show bub (bZ1 l i) (i+1)=_
   rw[h1,g1]
theorem oZq (l:List R):(bZ1 l (l.length-1)).Pairwise leR:=by
 by_cases h0:l=[]
 ·subst h0;exact List.Pairwise.nil
 ·have hp:0<l.length:=List.length_pos_iff.2 h0;obtain⟨p,r,h1,h2,h3⟩:=mZZ (l.length-1) l (by omega);have hlen:=eZK (l.length-1) l;rw[h1]at hlen⊢;have:r=[]:=by
   rw[List.length_append,h2]at hlen;exact List.length_eq_zero_iff.1 (by omega)
  rw[this,List.append_nil];exact h3
theorem sZd (l:List R):(bZ1 l (l.length-1)).Perm l:=by
 by_cases h0:l=[]
 ·subst h0;exact List.Perm.refl _
 ·have hp:0<l.length:=List.length_pos_iff.2 h0;exact lZA l _ (.inl (by omega))
end Go.Proofs.YtgfildcgihbdaaaGreatDoor.Srt
namespace Go.Proofs.YtgfildcgihbdaaaGreatDoor.Rec
open Go Go.Hw W
abbrev after (a b:R):Prop:=a.good∧b.good∧b.s=a.s+1∧(b.kd=1∨(b.kd=2∧a.kd=1∧a.ld=b.ld∧a.kk=b.kk)∨(b.kd=3∧a.kd≠1∧a.ld=b.ld∧a.kk=b.kk∧a.inp=b.inp∧b.out=0)∨
 (b.kd=4∧3≤a.kd∧a.ld=b.ld∧a.kk=b.kk∧a.inp=b.inp∧a.dir=b.dir∧b.ps=a.ps+1))
abbrev same (a b:R):Prop:=a.ld=b.ld∧a.kk=b.kk∧a.inp=b.inp
theorem qZa (a b:R)(H:Hp):Za Tryz.prog 155 #[.agg a.c,.agg b.c] H (RetE (.bool (decide (same a b))) H):=Za.ret (by
 apply fZu.ok;unfold fZu;refine(Sep.start H).nw fun b1 H1 hs=>?_
 refine hs.nw fun b2 H1 hs=>?_
 have hs:Sep [own H,pts b1 (bZD a),pts b2 (bZD b)] H1:=hs;refine hs.ldf 1 rfl rfl ?_;simp only[HV];refine hs.ldf 2 rfl rfl ?_;simp only[HV];by_cases h1:(a.ld:Int)=(b.ld:Int)
 ·refine ZS h1 ?_;refine hs.ldf 1 rfl rfl ?_;simp only[HV];refine hs.ldf 2 rfl rfl ?_;simp only[HV];by_cases h2:a.kk=b.kk
  ·refine ZS h2 ?_;refine hs.ldf 1 rfl rfl ?_;simp only[HV];refine hs.ldf 2 rfl rfl ?_;simp only[HV];have:decide (same a b)=((a.inp:Int)==(b.inp:Int)):=by
    by_cases h3:(a.inp:Int)=(b.inp:Int)
    ·rw[decide_eq_true ⟨by omega,h2,by omega⟩,h3];simp
    ·rw[decide_eq_false (fun h=>by have:=h.2.2;omega),beq_eq_false_iff_ne.2 h3]
   rw[this];exact hs.fin 0 rfl _
  ·rw[decide_eq_false (fun h=>h2 h.2.1)];exact aZg h2 (hs.fin 0 rfl _)
 ·rw[decide_eq_false (fun h=>h1 (by have:=h.1;omega))];exact aZg h1 (hs.fin 0 rfl _))
section
variable {a b : R} {H0 H : Hp} {b1 b2 : Nat}
theorem lZh (hs:Sep [own H0,pts b1 (bZD a),pts b2 (bZD b)] H)(h:¬after a b):Ret (.bool (decide (after a b))) H0 (.bool false) H:=by
 rw[decide_eq_false h];exact hs.fin 0 rfl _
theorem nZC (hs:Sep [own H0,pts b1 (bZD a),pts b2 (bZD b)] H){x:Bool}(h:x=true↔after a b):Ret (.bool (decide (after a b))) H0 (.bool x) H:=by
 have:decide (after a b)=x:=by
  cases x with
  |true=>exact decide_eq_true (h.1 rfl)
  |false=>exact decide_eq_false fun g=>by have:=h.2 g;cases this
 rw[this];exact hs.fin 0 rfl _
end
theorem tZg (a b:R)(H:Hp):Za Tryz.prog 110 #[.agg a.c,.agg b.c] H (RetE (.bool (decide (after a b))) H):=Za.ret (by
 apply eZT.ok;unfold eZT;refine(Sep.start H).nw fun b1 H1 hs=>?_
 refine hs.nw fun b2 H1 hs=>?_
 have hs:Sep [own H,pts b1 (bZD a),pts b2 (bZD b)] H1:=hs;refine hs.ldw 1 rfl rfl ?_;refine Za.use (bZR a H1) ?_;simp only[HV];by_cases ga:a.good
 case neg=>
  rw[decide_eq_false ga];exact aZx rfl (lZh hs fun h=>ga h.1)
 rw[decide_eq_true ga];refine aZc rfl ?_;refine hs.ldw 2 rfl rfl ?_;refine Za.use (bZR b H1) ?_;simp only[HV];by_cases gb:b.good
 case neg=>
  rw[decide_eq_false gb];exact aZx rfl (lZh hs fun h=>gb h.2.1)
 rw[decide_eq_true gb];refine aZc rfl ?_;have ga':=ga;have gb':=gb;obtain⟨a1,a2,a3,a4,a5,a6⟩:=ga';obtain⟨c1,c2,c3,c4,c5,c6⟩:=gb';refine hs.ldf 2 rfl rfl ?_;simp only[HV];refine hs.ldf 1 rfl rfl ?_;simp only[HV];rw[eZp (x:=(a.s:Int)+1) (by omega) (by omega)];by_cases hsq:(b.s:Int)=(a.s:Int)+1
 case neg=>exact ZA hsq (lZh hs fun h=>hsq (by have:=h.2.2.1;omega))
 refine Zq hsq ?_;have hd:∀{P:Prop},(P↔(b.kd=1∨(b.kd=2∧a.kd=1∧a.ld=b.ld∧a.kk=b.kk)∨(b.kd=3∧a.kd≠1∧a.ld=b.ld∧a.kk=b.kk∧a.inp=b.inp∧b.out=0)∨(b.kd=4∧3≤a.kd∧a.ld=b.ld∧a.kk=b.kk∧a.inp=b.inp∧a.dir=b.dir∧b.ps=a.ps+1)))→(P↔after a b):=fun h=>by
  rw[h];exact⟨fun g=>⟨ga,gb,by omega,g⟩,fun g=>g.2.2.2⟩
 have hn:¬(b.kd=1∨(b.kd=2∧a.kd=1∧a.ld=b.ld∧a.kk=b.kk)∨(b.kd=3∧a.kd≠1∧a.ld=b.ld∧a.kk=b.kk∧a.inp=b.inp∧b.out=0)∨(b.kd=4∧3≤a.kd∧a.ld=b.ld∧a.kk=b.kk∧a.inp=b.inp∧a.dir=b.dir∧b.ps=a.ps+1))→Ret (.bool (decide (after a b))) H (.bool false) H1:=fun h=>lZh hs fun g=>h g.2.2.2
 refine hs.ldf 2 rfl rfl ?_;simp only[HV];by_cases k1:b.kd=1
 ·exact ZS k1 (nZC hs (hd ⟨fun _=>.inl k1,fun _=>rfl⟩))
 refine aZg k1 ?_;by_cases k2:b.kd=2
 ·refine ZS k2 ?_;refine hs.ldf 1 rfl rfl ?_;simp only[HV];by_cases h1:a.kd=1
  ·refine ZS h1 ?_;refine hs.ldf 1 rfl rfl ?_;simp only[HV];refine hs.ldf 2 rfl rfl ?_;simp only[HV];by_cases h2:(a.ld:Int)=(b.ld:Int)
   ·refine ZS h2 ?_;refine hs.ldf 1 rfl rfl ?_;simp only[HV];refine hs.ldf 2 rfl rfl ?_;simp only[HV];refine nZC hs (hd ?_);rw[beq_iff_eq];omega
   ·exact aZg h2 (hn (by omega))
  ·exact aZg h1 (hn (by omega))
 refine aZg k2 ?_;by_cases k3:b.kd=3
 ·refine ZS k3 ?_;refine hs.ldf 1 rfl rfl ?_;simp only[HV];by_cases h1:a.kd=1
  ·exact Zq h1 (hn (by omega))
  ·refine ZA h1 ?_;refine hs.ldw 1 rfl rfl ?_;refine hs.ldw 2 rfl rfl ?_;refine Za.use (qZa a b H1) ?_;simp only[HV];by_cases h2:same a b
   ·rw[decide_eq_true h2];refine aZx rfl ?_;obtain⟨e1,e2,e3⟩:=h2;refine hs.ldf 2 rfl rfl ?_;simp only[HV];refine nZC hs (hd ?_);rw[beq_iff_eq];omega
   ·rw[decide_eq_false h2];refine aZc rfl (hn fun g=>h2 ?_);rcases g with g|g|g|g
    ·omega
    ·omega
    ·exact⟨g.2.2.1,g.2.2.2.1,g.2.2.2.2.1⟩
    ·omega
 refine aZg k3 ?_;refine hs.ldf 1 rfl rfl ?_;simp only[HV];by_cases h1:a.kd≥3
 ·refine Zn h1 ?_;refine hs.ldw 1 rfl rfl ?_;refine hs.ldw 2 rfl rfl ?_;refine Za.use (qZa a b H1) ?_;simp only[HV];by_cases h2:same a b
  ·rw[decide_eq_true h2];refine aZx rfl ?_;obtain⟨e1,e2,e3⟩:=h2;refine hs.ldf 1 rfl rfl ?_;simp only[HV];refine hs.ldf 2 rfl rfl ?_;simp only[HV];by_cases h3:a.dir=b.dir
   ·refine ZS h3 ?_;refine hs.ldf 2 rfl rfl ?_;simp only[HV];refine hs.ldf 1 rfl rfl ?_;simp only[HV];rw[ZG (x:=a.ps+1) (by omega) (by omega)];refine nZC hs (hd ?_);rw[beq_iff_eq];omega
   ·exact aZg h3 (hn (by omega))
  ·rw[decide_eq_false h2];refine aZc rfl (hn fun g=>h2 ?_);rcases g with g|g|g|g
   ·omega
   ·omega
   ·omega
   ·exact⟨g.2.2.1,g.2.2.2.1,g.2.2.2.2.1⟩
 ·exact Zh h1 (hn (by omega)))
end Go.Proofs.YtgfildcgihbdaaaGreatDoor.Rec
