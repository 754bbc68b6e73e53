import Derived.Test.YtgfildcgihbdaaaGreatDoorProg
import Derived.Test.YtgfildcgihbdaaaGreatDoorPkWholeCost8
set_option maxRecDepth 100000
set_option linter.unusedVariables false
set_option linter.unusedSimpArgs false
set_option linter.unnecessarySimpa false
set_option linter.unusedSectionVars false
open Go.IntKind (i64 u32 u64)
namespace Go.Proofs.YtgfildcgihbdaaaGreatDoor
open Tryz (prog)
namespace W
open Go Go.Hw
theorem ZZ :prog.follows .mixedOrders=true:=by kernel_rfl
def fZS (p1:OA)(H:Hp)(K:VK):Prop:=
 BIf p1.isNone (K (.pointer none) H) (Nw H (.obj (.cells #[.pointer p1,.pointer none] 85)) fun b1 H1=>K (.pointer (some ⟨b1,0,none⟩)) H1)
theorem fZS.ok p1 H K (h:fZS p1 H K):Za prog 12 #[.pointer p1] H K:=
 okN ZZ Tryz.func12 rfl rfl h
def Zd.j6 (K:VK)(a58 a59:Addr)(p64:OA)(x80:Int)(H:Hp):=
 BIf (x80 !=0) (K (.int .i64 x80) H) (LeP H a58 fun p65=>LeP H a58 fun p66=>NN p66 fun a60=>LeP H (a60.add 0) fun p67=>NN p64 fun a61=>LeP H (a61.add 22) fun p68=>Nw H (.row [.func (.func 44) #[] #[.pointer (some a58)],.func (.func 47) #[.pointer p67] #[],.func (.func 48) #[.pointer p68] #[],.func (.func 49) #[] #[.pointer (some a58),.pointer (some a59)]] 68 4) fun b46 H94=>HcI 46 #[.pointer p65,.slice (some ⟨b46,0,none⟩) 4 4] H94 fun x81 H95=>BIf (x81==0) (LeP H95 a58 fun p69=>NN p69 fun a62=>St H95 ((a62.add 1).add 0) (.pointer p64) fun H96=>K (.int .i64 x81) H96) (K (.int .i64 x81) H95))
def Zd.j5.q1 (p57:OA)(l1:List Value)(H:Hp)(K:VK)(a54 a55:Addr):=
 Hz 43 #[.pointer p57,.agg l1.toArray] H fun v131 H91=>dZV v131 fun p58 x77=>(Zd.j6 K a54 a55 p58 x77 H91)
def Zd.j5 (K:VK)(a54 a55:Addr)(H:Hp):=
 (LeP H a54 fun p56=>NN p56 fun a56=>(LeP H (a56.add 0) fun p57=>LdA H a55 4 fun l1=>Zd.j5.q1 p57 l1 H K a54 a55)∧(LdA H a55 4 fun l5=>LeP H (a56.add 0) fun p59=>Zd.j5.q1 p59 l5 H K a54 a55))∧(LdA H a55 4 fun l9=>LeP H a54 fun p61=>NN p61 fun a57=>LeP H (a57.add 0) fun p62=>Zd.j5.q1 p62 l9 H K a54 a55)
def Zd.q1.q1 (a9:Addr)(H13:Hp)(b7:Nat)(x1 x9 x2:Int)(K:VK)(b1:Nat):=
 QcI 42 #[.pointer (some (a9.add 0))] H13 fun x11=>StA H13 ⟨b7,0,none⟩ #[.int .i64 x1,.int .i64 x9,.int .i64 x11,.int .i64 x2] 4 fun H14=>Zd.j5 K ⟨b1,0,none⟩ ⟨b7,0,none⟩ H14
def Zd.q1.q2 (a9:Addr)(H2:Hp)(x1 x9 x2:Int)(K:VK)(b1:Nat):=
 (QcI 42 #[.pointer (some (a9.add 0))] H2 fun x10=>Nw H2 (.obj (.cells #[.int .i64 0,.int .i64 0,.int .i64 0,.int .i64 0] 27)) fun b6 H11=>StA H11 ⟨b6,0,none⟩ #[.int .i64 x1,.int .i64 x9,.int .i64 x10,.int .i64 x2] 4 fun H12=>Zd.j5 K ⟨b1,0,none⟩ ⟨b6,0,none⟩ H12)∧(Nw H2 (.obj (.cells #[.int .i64 0,.int .i64 0,.int .i64 0,.int .i64 0] 27)) fun b7 H13=>Zd.q1.q1 a9 H13 b7 x1 x9 x2 K b1)
def Zd.q1 (a2:Addr)(H2:Hp)(a8:Addr)(x1 x2:Int)(K:VK)(b1:Nat):=
 (QcI 41 #[.pointer (some (a2.add 0))] H2 fun x9=>(LeP H2 (a8.add 0) fun p11=>NN p11 fun a9=>Zd.q1.q2 a9 H2 x1 x9 x2 K b1)∧(Nw H2 (.obj (.cells #[.int .i64 0,.int .i64 0,.int .i64 0,.int .i64 0] 27)) fun b8 H15=>LeP H15 (a8.add 0) fun p12=>NN p12 fun a10=>Zd.q1.q1 a10 H15 b8 x1 x9 x2 K b1))∧(LeP H2 (a8.add 0) fun p13=>NN p13 fun a11=>(QcI 41 #[.pointer (some (a2.add 0))] H2 fun x13=>Zd.q1.q2 a11 H2 x1 x13 x2 K b1)∧(Nw H2 (.obj (.cells #[.int .i64 0,.int .i64 0,.int .i64 0,.int .i64 0] 27)) fun b11 H21=>QcI 41 #[.pointer (some (a2.add 0))] H21 fun x16=>Zd.q1.q1 a11 H21 b11 x1 x16 x2 K b1))∧(Nw H2 (.obj (.cells #[.int .i64 0,.int .i64 0,.int .i64 0,.int .i64 0] 27)) fun b12 H23=>QcI 41 #[.pointer (some (a2.add 0))] H23 fun x18=>LeP H23 (a8.add 0) fun p14=>NN p14 fun a12=>Zd.q1.q1 a12 H23 b12 x1 x18 x2 K b1)
def Zd.q2.q1 (a21:Addr)(H43:Hp)(b22:Nat)(x1 x33 x2:Int)(K:VK)(b1:Nat):=
 QcI 42 #[.pointer (some (a21.add 0))] H43 fun x35=>StA H43 ⟨b22,0,none⟩ #[.int .i64 x1,.int .i64 x33,.int .i64 x35,.int .i64 x2] 4 fun H44=>Zd.j5 K ⟨b1,0,none⟩ ⟨b22,0,none⟩ H44
def Zd.q2 (H2:Hp)(a1 a21:Addr)(x1 x2:Int)(K:VK)(b1:Nat):=
 (LeP H2 (a1.add 0) fun p24=>NN p24 fun a22=>(QcI 41 #[.pointer (some (a22.add 0))] H2 fun x33=>(QcI 42 #[.pointer (some (a21.add 0))] H2 fun x34=>Nw H2 (.obj (.cells #[.int .i64 0,.int .i64 0,.int .i64 0,.int .i64 0] 27)) fun b21 H41=>StA H41 ⟨b21,0,none⟩ #[.int .i64 x1,.int .i64 x33,.int .i64 x34,.int .i64 x2] 4 fun H42=>Zd.j5 K ⟨b1,0,none⟩ ⟨b21,0,none⟩ H42)∧(Nw H2 (.obj (.cells #[.int .i64 0,.int .i64 0,.int .i64 0,.int .i64 0] 27)) fun b22 H43=>Zd.q2.q1 a21 H43 b22 x1 x33 x2 K b1))∧(Nw H2 (.obj (.cells #[.int .i64 0,.int .i64 0,.int .i64 0,.int .i64 0] 27)) fun b23 H45=>QcI 41 #[.pointer (some (a22.add 0))] H45 fun x36=>Zd.q2.q1 a21 H45 b23 x1 x36 x2 K b1))∧(Nw H2 (.obj (.cells #[.int .i64 0,.int .i64 0,.int .i64 0,.int .i64 0] 27)) fun b24 H47=>LeP H47 (a1.add 0) fun p25=>NN p25 fun a23=>QcI 41 #[.pointer (some (a23.add 0))] H47 fun x38=>Zd.q2.q1 a21 H47 b24 x1 x38 x2 K b1)
def Zd.q3 (H7:Hp)(a3:Addr)(b4:Nat)(x1 x4 x2:Int)(K:VK)(b1:Nat):=
 LeP H7 (a3.add 0) fun p7=>NN p7 fun a5=>QcI 42 #[.pointer (some (a5.add 0))] H7 fun x7=>StA H7 ⟨b4,0,none⟩ #[.int .i64 x1,.int .i64 x4,.int .i64 x7,.int .i64 x2] 4 fun H8=>Zd.j5 K ⟨b1,0,none⟩ ⟨b4,0,none⟩ H8
def Zd.q4 (H2:Hp)(a1 a15:Addr)(x1 x2:Int)(K:VK)(b1:Nat):=
 (LeP H2 (a1.add 0) fun p18=>NN p18 fun a16=>Zd.q1 a16 H2 a15 x1 x2 K b1)∧(LeP H2 (a15.add 0) fun p23=>NN p23 fun a21=>Zd.q2 H2 a1 a21 x1 x2 K b1)∧(Nw H2 (.obj (.cells #[.int .i64 0,.int .i64 0,.int .i64 0,.int .i64 0] 27)) fun b25 H49=>LeP H49 (a1.add 0) fun p26=>NN p26 fun a24=>QcI 41 #[.pointer (some (a24.add 0))] H49 fun x40=>Zd.q3 H49 a15 b25 x1 x40 x2 K b1)
def Zd.q5 (a2:Addr)(H25:Hp)(b1 b13:Nat)(x1 x2:Int)(K:VK):Prop:=
 QcI 41 #[.pointer (some (a2.add 0))] H25 fun x20=>LeP H25 ⟨b1,0,none⟩ fun p15=>NN p15 fun a13=>Zd.q3 H25 a13 b13 x1 x20 x2 K b1
def Zd (p1:OA)(x1 x2:Int)(H:Hp)(K:VK):Prop:=
 Nw H (.obj (.cells #[.pointer p1] 36)) fun b1 H1=>LeP H1 ⟨b1,0,none⟩ fun p2=>HcI 40 #[.pointer p2,.int .i64 x1,.int .i64 x2] H1 fun x3 H2=>BIf (x3 !=0) (K (.int .i64 x3) H2) ((LeP H2 ⟨b1,0,none⟩ fun p3=>NN p3 fun a1=>(LeP H2 (a1.add 0) fun p4=>NN p4 fun a2=>(QcI 41 #[.pointer (some (a2.add 0))] H2 fun x4=>(LeP H2 ⟨b1,0,none⟩ fun p5=>NN p5 fun a3=>(LeP H2 (a3.add 0) fun p6=>NN p6 fun a4=>(QcI 42 #[.pointer (some (a4.add 0))] H2 fun x5=>Nw H2 (.obj (.cells #[.int .i64 0,.int .i64 0,.int .i64 0,.int .i64 0] 27)) fun b2 H3=>StA H3 ⟨b2,0,none⟩ #[.int .i64 x1,.int .i64 x4,.int .i64 x5,.int .i64 x2] 4 fun H4=>Zd.j5 K ⟨b1,0,none⟩ ⟨b2,0,none⟩ H4)∧(Nw H2 (.obj (.cells #[.int .i64 0,.int .i64 0,.int .i64 0,.int .i64 0] 27)) fun b3 H5=>QcI 42 #[.pointer (some (a4.add 0))] H5 fun x6=>StA H5 ⟨b3,0,none⟩ #[.int .i64 x1,.int .i64 x4,.int .i64 x6,.int .i64 x2] 4 fun H6=>Zd.j5 K ⟨b1,0,none⟩ ⟨b3,0,none⟩ H6))∧(Nw H2 (.obj (.cells #[.int .i64 0,.int .i64 0,.int .i64 0,.int .i64 0] 27)) fun b4 H7=>Zd.q3 H7 a3 b4 x1 x4 x2 K b1))∧(Nw H2 (.obj (.cells #[.int .i64 0,.int .i64 0,.int .i64 0,.int .i64 0] 27)) fun b5 H9=>LeP H9 ⟨b1,0,none⟩ fun p8=>NN p8 fun a6=>Zd.q3 H9 a6 b5 x1 x4 x2 K b1))∧(LeP H2 ⟨b1,0,none⟩ fun p10=>NN p10 fun a8=>Zd.q1 a2 H2 a8 x1 x2 K b1)∧(Nw H2 (.obj (.cells #[.int .i64 0,.int .i64 0,.int .i64 0,.int .i64 0] 27)) fun b13 H25=>Zd.q5 a2 H25 b1 b13 x1 x2 K))∧(LeP H2 ⟨b1,0,none⟩ fun p17=>NN p17 fun a15=>Zd.q4 H2 a1 a15 x1 x2 K b1)∧(Nw H2 (.obj (.cells #[.int .i64 0,.int .i64 0,.int .i64 0,.int .i64 0] 27)) fun b26 H51=>LeP H51 (a1.add 0) fun p28=>NN p28 fun a26=>Zd.q5 a26 H51 b1 b26 x1 x2 K))∧(LeP H2 ⟨b1,0,none⟩ fun p31=>NN p31 fun a29=>(LeP H2 ⟨b1,0,none⟩ fun p32=>NN p32 fun a30=>Zd.q4 H2 a30 a29 x1 x2 K b1)∧(LeP H2 (a29.add 0) fun p43=>NN p43 fun a41=>(LeP H2 ⟨b1,0,none⟩ fun p44=>NN p44 fun a42=>Zd.q2 H2 a42 a41 x1 x2 K b1)∧(Nw H2 (.obj (.cells #[.int .i64 0,.int .i64 0,.int .i64 0,.int .i64 0] 27)) fun b43 H85=>LeP H85 ⟨b1,0,none⟩ fun p47=>NN p47 fun a45=>LeP H85 (a45.add 0) fun p48=>NN p48 fun a46=>QcI 41 #[.pointer (some (a46.add 0))] H85 fun x71=>QcI 42 #[.pointer (some (a41.add 0))] H85 fun x72=>StA H85 ⟨b43,0,none⟩ #[.int .i64 x1,.int .i64 x71,.int .i64 x72,.int .i64 x2] 4 fun H86=>Zd.j5 K ⟨b1,0,none⟩ ⟨b43,0,none⟩ H86))∧(Nw H2 (.obj (.cells #[.int .i64 0,.int .i64 0,.int .i64 0,.int .i64 0] 27)) fun b44 H87=>LeP H87 ⟨b1,0,none⟩ fun p49=>NN p49 fun a47=>LeP H87 (a47.add 0) fun p50=>NN p50 fun a48=>QcI 41 #[.pointer (some (a48.add 0))] H87 fun x73=>Zd.q3 H87 a29 b44 x1 x73 x2 K b1))∧(Nw H2 (.obj (.cells #[.int .i64 0,.int .i64 0,.int .i64 0,.int .i64 0] 27)) fun b45 H89=>LeP H89 ⟨b1,0,none⟩ fun p52=>NN p52 fun a50=>LeP H89 (a50.add 0) fun p53=>NN p53 fun a51=>Zd.q5 a51 H89 b1 b45 x1 x2 K))
def Zd.Λ (K:VK):Zt:=⟨fun i=>match Nat.beq i 6 with|true=>some (fun E D H=>eN E 3 fun a58=>eN E 8 fun a59=>eP E 9 fun p64=>eI E 10 .i64 fun x80=>Zk D (Zd.j6 K a58 a59 p64 x80 H))|false=>match Nat.beq i 5 with|true=>some (fun E D H=>eN E 3 fun a54=>eN E 8 fun a55=>Zk D (Zd.j5 K a54 a55 H))|false=>none,fun i=>none,(fun i=>match Nat.beq i 9 with|true=>some ([0,2,5,10],[0,0,0,4,12,28,60,0,128,384,896,1920,0,8190,16383,32767],0)|false=>match Nat.beq i 5 with|true=>some ([],[0,1,3,7,0,31,63,127,127,255,1023],0)|false=>match Nat.beq i 4 with|true=>some ([1,4,7,8,11,14],[0,0,2,6,14,30,62,126,0,256,768,1792,3840,7936,16382,0,65535,0,262143],0)|false=>none)⟩
theorem Zd.ok p1 x1 x2 H K (h:Zd p1 x1 x2 H K):Za prog 14 #[.pointer p1,.int .i64 x1,.int .i64 x2] H K:=
 okL (Λ:=(Zd.Λ K)) ZZ Tryz.func14 rfl rfl h (oC (fun E D H h=>by
   obtain⟨a54,e3,g3⟩:=GN h;obtain⟨a55,e8,g6⟩:=GN g3;obtain⟨rfl,h'⟩:=Zk.out g6;exact okJ (Λ:=(Zd.Λ K)) ZZ [] (Zb.cons e3 (Zb.cons e8 (Zb.nil _))) h' (oC (fun E D H h=>by
     obtain⟨a58,e3,g3⟩:=GN h;obtain⟨a59,e8,g6⟩:=GN g3;obtain⟨p64,e9,g8⟩:=GP g6;obtain⟨x80,e10,g10⟩:=GI g8;obtain⟨rfl,h'⟩:=Zk.out g10;exact okJ (Λ:=(Zd.Λ K)) ZZ [] (Zb.cons e3 (Zb.cons e8 (Zb.cons e9 (Zb.cons e10 (Zb.nil _))))) h' oN) oN)) oN)
def Zi.j7 (K:VK)(a29 a30 a31 a32:Addr)(H:Hp):=
 Nw H (.obj (.cells #[.int .u32 0] 100)) fun b35 H85=>LeP H85 a29 fun p28=>NN p28 fun a33=>LeP H85 (a33.add 1) fun p29=>Nw H85 (.obj (.cells #[.pointer none] 83)) fun b36 H86=>St H86 ((⟨b36,0,none⟩:Addr).add 0) (.pointer p29) fun H87=>LeP H87 a29 fun p30=>Nw H87 (.row [.func (.func 53) #[] #[.pointer (some ⟨b36,0,none⟩),.pointer (some a32)],.func (.func 55) #[] #[.pointer (some ⟨b36,0,none⟩),.pointer (some a29),.pointer (some a31),.pointer (some a30),.pointer (some ⟨b35,0,none⟩)],.func (.func 57) #[] #[.pointer (some ⟨b35,0,none⟩),.pointer (some a32),.pointer (some ⟨b36,0,none⟩)]] 68 3) fun b37 H88=>HcI 46 #[.pointer p30,.slice (some ⟨b37,0,none⟩) 3 3] H88 fun x91 H89=>K (.tuple #[.int .i64 0,.int .i64 x91]) H89
def Zi.j4.q1 (H57:Hp)(b21:Nat)(x70 x71:Int)(K:VK)(a14 a15 a16:Addr):=
 StA H57 ⟨b21,0,none⟩ #[.int .u64 0,.int .i64 1,.int .i64 x70,.int .i64 0,.int .i64 0,.int .u32 (u32.wrap (x71+1)),.int .u32 0,.int .u32 0] 8 fun H58=>Zi.j7 K a14 a15 a16 ⟨b21,0,none⟩ H58
def Zi.j4.q2 (H:Hp)(a18:Addr)(x70:Int)(K:VK)(a14 a15 a16:Addr):=
 (LeU H ((a18.add 23).add 5) fun x71=>Nw H (.obj (.cells #[.int .u64 0,.int .i64 0,.int .i64 0,.int .i64 0,.int .i64 0,.int .u32 0,.int .u32 0,.int .u32 0] 102)) fun b21 H57=>Zi.j4.q1 H57 b21 x70 x71 K a14 a15 a16)∧(Nw H (.obj (.cells #[.int .u64 0,.int .i64 0,.int .i64 0,.int .i64 0,.int .i64 0,.int .u32 0,.int .u32 0,.int .u32 0] 102)) fun b22 H59=>LeU H59 ((a18.add 23).add 5) fun x72=>Zi.j4.q1 H59 b22 x70 x72 K a14 a15 a16)
def Zi.j4.q3 (H61:Hp)(a17:Addr)(b23:Nat)(x70:Int)(K:VK)(a14 a15 a16:Addr):=
 LeP H61 (a17.add 1) fun p18=>NN p18 fun a19=>LeU H61 ((a19.add 23).add 5) fun x73=>Zi.j4.q1 H61 b23 x70 x73 K a14 a15 a16
def Zi.j4.q4 (H:Hp)(a17:Addr)(x70:Int)(K:VK)(a14 a15 a16:Addr):=
 (LeP H (a17.add 1) fun p17=>NN p17 fun a18=>Zi.j4.q2 H a18 x70 K a14 a15 a16)∧(Nw H (.obj (.cells #[.int .u64 0,.int .i64 0,.int .i64 0,.int .i64 0,.int .i64 0,.int .u32 0,.int .u32 0,.int .u32 0] 102)) fun b23 H61=>Zi.j4.q3 H61 a17 b23 x70 K a14 a15 a16)
def Zi.j4 (K:VK)(a14 a15:Addr)(x68 x69:Int)(a16:Addr)(H:Hp):=
 BIf (x69 !=0) (K (.tuple #[.int .i64 x68,.int .i64 x69]) H) ((LeI H a16 fun x70=>(LeP H a14 fun p16=>NN p16 fun a17=>Zi.j4.q4 H a17 x70 K a14 a15 a16)∧(Nw H (.obj (.cells #[.int .u64 0,.int .i64 0,.int .i64 0,.int .i64 0,.int .i64 0,.int .u32 0,.int .u32 0,.int .u32 0] 102)) fun b24 H63=>LeP H63 a14 fun p19=>NN p19 fun a20=>Zi.j4.q3 H63 a20 b24 x70 K a14 a15 a16))∧(LeP H a14 fun p21=>NN p21 fun a22=>(LeI H a16 fun x75=>Zi.j4.q4 H a22 x75 K a14 a15 a16)∧(LeP H (a22.add 1) fun p24=>NN p24 fun a25=>(LeI H a16 fun x79=>Zi.j4.q2 H a25 x79 K a14 a15 a16)∧(LeU H ((a25.add 23).add 5) fun x82=>(LeI H a16 fun x83=>Nw H (.obj (.cells #[.int .u64 0,.int .i64 0,.int .i64 0,.int .i64 0,.int .i64 0,.int .u32 0,.int .u32 0,.int .u32 0] 102)) fun b30 H75=>Zi.j4.q1 H75 b30 x83 x82 K a14 a15 a16)∧(Nw H (.obj (.cells #[.int .u64 0,.int .i64 0,.int .i64 0,.int .i64 0,.int .i64 0,.int .u32 0,.int .u32 0,.int .u32 0] 102)) fun b31 H77=>LeI H77 a16 fun x84=>Zi.j4.q1 H77 b31 x84 x82 K a14 a15 a16))∧(Nw H (.obj (.cells #[.int .u64 0,.int .i64 0,.int .i64 0,.int .i64 0,.int .i64 0,.int .u32 0,.int .u32 0,.int .u32 0] 102)) fun b32 H79=>LeI H79 a16 fun x85=>LeU H79 ((a25.add 23).add 5) fun x86=>Zi.j4.q1 H79 b32 x85 x86 K a14 a15 a16))∧(Nw H (.obj (.cells #[.int .u64 0,.int .i64 0,.int .i64 0,.int .i64 0,.int .i64 0,.int .u32 0,.int .u32 0,.int .u32 0] 102)) fun b33 H81=>LeI H81 a16 fun x87=>Zi.j4.q3 H81 a22 b33 x87 K a14 a15 a16))∧(Nw H (.obj (.cells #[.int .u64 0,.int .i64 0,.int .i64 0,.int .i64 0,.int .i64 0,.int .u32 0,.int .u32 0,.int .u32 0] 102)) fun b34 H83=>LeI H83 a16 fun x89=>LeP H83 a14 fun p26=>NN p26 fun a27=>Zi.j4.q3 H83 a27 b34 x89 K a14 a15 a16))
def Zi.q1 (A2:OA)(n2 m2:Nat)(x1:Int)(H6:Hp)(b4:Nat)(K:VK)(b1 b2:Nat):=
 Hz 52 #[.slice A2 n2 m2,.int .i64 x1] H6 fun v11 H7=>nZB v11 fun x5 x6 x7=>(St H7 ((⟨b4,0,none⟩:Addr).add 0) (.int .i64 x5) fun H8=>Zi.j4 K ⟨b1,0,none⟩ ⟨b2,0,none⟩ x6 x7 ⟨b4,0,none⟩ H8)
def Zi.q2 (A2:OA)(n2 m2:Nat)(x1:Int)(H2:Hp)(K:VK)(b1 b2:Nat):=
 (Hz 52 #[.slice A2 n2 m2,.int .i64 x1] H2 fun v7 H3=>nZB v7 fun x2 x3 x4=>(Nw H3 (.obj (.cells #[.int .i64 0] 3)) fun b3 H4=>St H4 ((⟨b3,0,none⟩:Addr).add 0) (.int .i64 x2) fun H5=>Zi.j4 K ⟨b1,0,none⟩ ⟨b2,0,none⟩ x3 x4 ⟨b3,0,none⟩ H5))∧(Nw H2 (.obj (.cells #[.int .i64 0] 3)) fun b4 H6=>Zi.q1 A2 n2 m2 x1 H6 b4 K b1 b2)
def Zi.q3 (H2:Hp)(a2:Addr)(A2:OA)(n2 m2:Nat)(K:VK)(b1 b2:Nat):=
 (LeP H2 (a2.add 1) fun p5=>NN p5 fun a3=>(LeI H2 ((a3.add 0).add 0) fun x1=>Zi.q2 A2 n2 m2 x1 H2 K b1 b2)∧(Nw H2 (.obj (.cells #[.int .i64 0] 3)) fun b5 H9=>LeI H9 ((a3.add 0).add 0) fun x8=>Zi.q1 A2 n2 m2 x8 H9 b5 K b1 b2))∧(Nw H2 (.obj (.cells #[.int .i64 0] 3)) fun b6 H12=>LeP H12 (a2.add 1) fun p6=>NN p6 fun a4=>LeI H12 ((a4.add 0).add 0) fun x12=>Zi.q1 A2 n2 m2 x12 H12 b6 K b1 b2)
def Zi (p1 A1:OA)(n1 m1:Nat)(H:Hp)(K:VK):Prop:=
 Nw H (.obj (.cells #[.pointer p1] 36)) fun b1 H1=>Nw H1 (.obj (.cells #[.slice A1 n1 m1] 22)) fun b2 H2=>LeP H2 ⟨b1,0,none⟩ fun p2=>NN p2 fun a1=>LeP H2 (a1.add 1) fun p3=>BIf p3.isNone (K (.tuple #[.int .i64 0,.int .i64 5]) H2) ((LeS H2 ⟨b2,0,none⟩ fun A2 n2 m2=>(LeP H2 ⟨b1,0,none⟩ fun p4=>NN p4 fun a2=>Zi.q3 H2 a2 A2 n2 m2 K b1 b2)∧(Nw H2 (.obj (.cells #[.int .i64 0] 3)) fun b7 H15=>LeP H15 ⟨b1,0,none⟩ fun p7=>NN p7 fun a5=>LeP H15 (a5.add 1) fun p8=>NN p8 fun a6=>LeI H15 ((a6.add 0).add 0) fun x16=>Zi.q1 A2 n2 m2 x16 H15 b7 K b1 b2))∧(LeP H2 ⟨b1,0,none⟩ fun p9=>NN p9 fun a7=>(LeS H2 ⟨b2,0,none⟩ fun A3 n3 m3=>Zi.q3 H2 a7 A3 n3 m3 K b1 b2)∧(LeP H2 (a7.add 1) fun p12=>NN p12 fun a10=>(LeS H2 ⟨b2,0,none⟩ fun A4 n4 m4=>(LeI H2 ((a10.add 0).add 0) fun x35=>Zi.q2 A4 n4 m4 x35 H2 K b1 b2)∧(Nw H2 (.obj (.cells #[.int .i64 0] 3)) fun b14 H36=>LeI H36 ((a10.add 0).add 0) fun x42=>Zi.q1 A4 n4 m4 x42 H36 b14 K b1 b2))∧(LeI H2 ((a10.add 0).add 0) fun x46=>(LeS H2 ⟨b2,0,none⟩ fun A5 n5 m5=>Zi.q2 A5 n5 m5 x46 H2 K b1 b2)∧(Nw H2 (.obj (.cells #[.int .i64 0] 3)) fun b17 H45=>LeS H45 ⟨b2,0,none⟩ fun A6 n6 m6=>Zi.q1 A6 n6 m6 x46 H45 b17 K b1 b2))∧(Nw H2 (.obj (.cells #[.int .i64 0] 3)) fun b18 H48=>LeS H48 ⟨b2,0,none⟩ fun A7 n7 m7=>LeI H48 ((a10.add 0).add 0) fun x56=>Zi.q1 A7 n7 m7 x56 H48 b18 K b1 b2))∧(Nw H2 (.obj (.cells #[.int .i64 0] 3)) fun b19 H51=>LeS H51 ⟨b2,0,none⟩ fun A8 n8 m8=>LeP H51 (a7.add 1) fun p13=>NN p13 fun a11=>LeI H51 ((a11.add 0).add 0) fun x60=>Zi.q1 A8 n8 m8 x60 H51 b19 K b1 b2))∧(Nw H2 (.obj (.cells #[.int .i64 0] 3)) fun b20 H54=>LeS H54 ⟨b2,0,none⟩ fun A9 n9 m9=>LeP H54 ⟨b1,0,none⟩ fun p14=>NN p14 fun a12=>LeP H54 (a12.add 1) fun p15=>NN p15 fun a13=>LeI H54 ((a13.add 0).add 0) fun x64=>Zi.q1 A9 n9 m9 x64 H54 b20 K b1 b2))
def Zi.Λ (K:VK):Zt:=⟨fun i=>match Nat.beq i 7 with|true=>some (fun E D H=>eN E 2 fun a29=>eN E 3 fun a30=>eN E 6 fun a31=>eN E 7 fun a32=>Zk D (Zi.j7 K a29 a30 a31 a32 H))|false=>match Nat.beq i 4 with|true=>some (fun E D H=>eN E 2 fun a14=>eN E 3 fun a15=>eI E 4 .i64 fun x68=>eI E 5 .i64 fun x69=>eN E 6 fun a16=>Zk D (Zi.j4 K a14 a15 x68 x69 a16 H))|false=>none,fun i=>none,(fun i=>match Nat.beq i 6 with|true=>some ([0,1,4,8],[0,0,2,6,14,30,62,126,254,510,1023,0,4095],0)|false=>match Nat.beq i 3 with|true=>some ([0,1,4,8],[0,0,2,6,14,30,62,126,254,511,1023,2047,2047,2047,0,20479,57343,131071],0)|false=>none)⟩
theorem Zi.ok p1 A1 n1 m1 H K (h:Zi p1 A1 n1 m1 H K):Za prog 17 #[.pointer p1,.slice A1 n1 m1] H K:=
 okL (Λ:=(Zi.Λ K)) ZZ Tryz.func17 rfl rfl h (oC (fun E D H h=>by
   obtain⟨a14,e2,g3⟩:=GN h;obtain⟨a15,e3,g6⟩:=GN g3;obtain⟨x68,e4,g8⟩:=GI g6;obtain⟨x69,e5,g10⟩:=GI g8;obtain⟨a16,e6,g13⟩:=GN g10;obtain⟨rfl,h'⟩:=Zk.out g13;exact okJ (Λ:=(Zi.Λ K)) ZZ [] (Zb.cons e2 (Zb.cons e3 (Zb.cons e4 (Zb.cons e5 (Zb.cons e6 (Zb.nil _)))))) h' (oC (fun E D H h=>by
     obtain⟨a29,e2,g3⟩:=GN h;obtain⟨a30,e3,g6⟩:=GN g3;obtain⟨a31,e6,g9⟩:=GN g6;obtain⟨a32,e7,g12⟩:=GN g9;obtain⟨rfl,h'⟩:=Zk.out g12;exact okJ (Λ:=(Zi.Λ K)) ZZ [] (Zb.cons e2 (Zb.cons e3 (Zb.cons e6 (Zb.cons e7 (Zb.nil _))))) h' oN) oN)) oN)
def aZs.j4 (K:VK)(p2:OA)(x3:Int)(H:Hp):=
 BIf (decide (x3<0)) (K (.int .i64 18) H) (BIf (decide (x3>1)) (K (.int .i64 18) H) (NN p2 fun a1=>LeP H (a1.add 1) fun p3=>NN p2 fun a2=>LeP H (a2.add 1) fun p4=>NN p4 fun a3=>LeI H ((a3.add 23).add 2) fun x4=>NN p2 fun a4=>LeP H (a4.add 1) fun p5=>NN p5 fun a5=>LeU H ((a5.add 23).add 5) fun x5=>NN p2 fun a6=>LeP H (a6.add 1) fun p6=>NN p6 fun a7=>LeU H ((a7.add 23).add 6) fun x6=>HcI 54 #[.pointer p3,.agg #[.int .u64 0,.int .i64 3,.int .i64 x4,.int .i64 x3,.int .i64 0,.int .u32 x5,.int .u32 x6,.int .u32 0]] H fun x7 H2=>HcI 59 #[.pointer p2,.int .i64 x7] H2 fun x8 H3=>K (.int .i64 x8) H3))
def aZs (p1:OA)(x1:Int)(H:Hp)(K:VK):Prop:=
 HcI 58 #[.pointer p1] H fun x2 H1=>BIf (x2 !=2) (BIf (x2 !=4) (K (.int .i64 5) H1) (aZs.j4 K p1 x1 H1)) (aZs.j4 K p1 x1 H1)
def aZs.Λ (K:VK):Zt:=⟨fun i=>match Nat.beq i 4 with|true=>some (fun E D H=>eP E 0 fun p2=>eI E 1 .i64 fun x3=>Zk D (aZs.j4 K p2 x3 H))|false=>none,fun i=>none,(fun i=>match Nat.beq i 6 with|true=>some ([0],[1,2,3,4,5,6,7,8,9,10,11,12,13,14,15,16,17,18,19,20,21,22,23,24,25,26,27,28,29,30],31)|false=>none)⟩
theorem aZs.ok p1 x1 H K (h:aZs p1 x1 H K):Za prog 20 #[.pointer p1,.int .i64 x1] H K:=
 okL (Λ:=(aZs.Λ K)) ZZ Tryz.func20 rfl rfl h (oC (fun E D H h=>by
   obtain⟨p2,e0,g2⟩:=GP h;obtain⟨x3,e1,g4⟩:=GI g2;obtain⟨rfl,h'⟩:=Zk.out g4;exact okJ (Λ:=(aZs.Λ K)) ZZ [] (Zb.cons e0 (Zb.cons e1 (Zb.nil _))) h' oN) oN)
def Zj.j6.q1 (H10:Hp)(a14 a8:Addr)(x8:Int)(a7:Addr)(K:VK):Prop:=
 (LeS H10 (a14.add 31) fun A2 n2 m2=>St H10 ((a8.add 4).add 0) (.int .i64 x8) fun H11=>St H11 ((a8.add 5).add 0) (.int .i64 (n2:Int)) fun H12=>LdA H12 a8 6 fun l2=>StA H12 a7 l2.toArray 6 fun H89=>LdA H89 a7 6 fun l34=>K (.agg l34.toArray) H89)∧(St H10 ((a8.add 4).add 0) (.int .i64 x8) fun H13=>LeS H13 (a14.add 31) fun A3 n3 m3=>St H13 ((a8.add 5).add 0) (.int .i64 (n3:Int)) fun H14=>LdA H14 a8 6 fun l3=>StA H14 a7 l3.toArray 6 fun H90=>LdA H90 a7 6 fun l35=>K (.agg l35.toArray) H90)
def Zj.j6.q2 (H7:Hp)(a8:Addr)(x8:Int)(n1:Nat)(a7:Addr)(K:VK):Prop:=
 St H7 ((a8.add 4).add 0) (.int .i64 x8) fun H8=>St H8 ((a8.add 5).add 0) (.int .i64 (n1:Int)) fun H9=>LdA H9 a8 6 fun l1=>StA H9 a7 l1.toArray 6 fun H88=>LdA H88 a7 6 fun l33=>K (.agg l33.toArray) H88
def Zj.j6.q3 (H15:Hp)(a12 a8:Addr)(x8:Int)(a7:Addr)(K:VK):Prop:=
 (LeP H15 (a12.add 1) fun p9=>NN p9 fun a15=>Zj.j6.q1 H15 a15 a8 x8 a7 K)∧(St H15 ((a8.add 4).add 0) (.int .i64 x8) fun H20=>LeP H20 (a12.add 1) fun p10=>NN p10 fun a16=>LeS H20 (a16.add 31) fun A6 n6 m6=>St H20 ((a8.add 5).add 0) (.int .i64 (n6:Int)) fun H21=>LdA H21 a8 6 fun l6=>StA H21 a7 l6.toArray 6 fun H93=>LdA H93 a7 6 fun l38=>K (.agg l38.toArray) H93)
def Zj.j6.q4 (H:Hp)(a13 a17 a8:Addr)(x7:Int)(a7:Addr)(K:VK):Prop:=
 (LeI H ((a13.add 23).add 4) fun x9=>(LeS H (a17.add 31) fun A7 n7 m7=>St H ((a8.add 3).add 0) (.int .i64 x7) fun H22=>Zj.j6.q2 H22 a8 x9 n7 a7 K)∧(St H ((a8.add 3).add 0) (.int .i64 x7) fun H25=>Zj.j6.q1 H25 a17 a8 x9 a7 K))∧(LeS H (a17.add 31) fun A10 n10 m10=>(LeI H ((a13.add 23).add 4) fun x10=>St H ((a8.add 3).add 0) (.int .i64 x7) fun H30=>Zj.j6.q2 H30 a8 x10 n10 a7 K)∧(St H ((a8.add 3).add 0) (.int .i64 x7) fun H33=>LeI H33 ((a13.add 23).add 4) fun x11=>Zj.j6.q2 H33 a8 x11 n10 a7 K))∧(St H ((a8.add 3).add 0) (.int .i64 x7) fun H36=>LeI H36 ((a13.add 23).add 4) fun x12=>Zj.j6.q1 H36 a17 a8 x12 a7 K)
def Zj.j6 (K:VK)(p5:OA)(a7 a8:Addr)(H:Hp):=
 LeI H (a8.add 0) fun x6=>BIf (decide (x6≥3)) (NN p5 fun a9=>LeP H (a9.add 1) fun p6=>NN p6 fun a10=>LeI H ((a10.add 23).add 3) fun x7=>NN p5 fun a11=>NN p5 fun a12=>(LeP H (a11.add 1) fun p7=>NN p7 fun a13=>(LeI H ((a13.add 23).add 4) fun x8=>(LeP H (a12.add 1) fun p8=>NN p8 fun a14=>(LeS H (a14.add 31) fun A1 n1 m1=>St H ((a8.add 3).add 0) (.int .i64 x7) fun H7=>Zj.j6.q2 H7 a8 x8 n1 a7 K)∧(St H ((a8.add 3).add 0) (.int .i64 x7) fun H10=>Zj.j6.q1 H10 a14 a8 x8 a7 K))∧(St H ((a8.add 3).add 0) (.int .i64 x7) fun H15=>Zj.j6.q3 H15 a12 a8 x8 a7 K))∧(LeP H (a12.add 1) fun p11=>NN p11 fun a17=>Zj.j6.q4 H a13 a17 a8 x7 a7 K)∧(St H ((a8.add 3).add 0) (.int .i64 x7) fun H41=>LeI H41 ((a13.add 23).add 4) fun x13=>Zj.j6.q3 H41 a12 a8 x13 a7 K))∧(LeP H (a12.add 1) fun p14=>NN p14 fun a20=>(LeP H (a11.add 1) fun p15=>NN p15 fun a21=>Zj.j6.q4 H a21 a20 a8 x7 a7 K)∧(LeS H (a20.add 31) fun A22 n22 m22=>(LeP H (a11.add 1) fun p16=>NN p16 fun a22=>(LeI H ((a22.add 23).add 4) fun x18=>St H ((a8.add 3).add 0) (.int .i64 x7) fun H67=>Zj.j6.q2 H67 a8 x18 n22 a7 K)∧(St H ((a8.add 3).add 0) (.int .i64 x7) fun H70=>LeI H70 ((a22.add 23).add 4) fun x19=>Zj.j6.q2 H70 a8 x19 n22 a7 K))∧(St H ((a8.add 3).add 0) (.int .i64 x7) fun H73=>LeP H73 (a11.add 1) fun p17=>NN p17 fun a23=>LeI H73 ((a23.add 23).add 4) fun x20=>Zj.j6.q2 H73 a8 x20 n22 a7 K))∧(St H ((a8.add 3).add 0) (.int .i64 x7) fun H76=>LeP H76 (a11.add 1) fun p18=>NN p18 fun a24=>LeI H76 ((a24.add 23).add 4) fun x21=>Zj.j6.q1 H76 a20 a8 x21 a7 K))∧(St H ((a8.add 3).add 0) (.int .i64 x7) fun H81=>LeP H81 (a11.add 1) fun p19=>NN p19 fun a25=>LeI H81 ((a25.add 23).add 4) fun x22=>Zj.j6.q3 H81 a12 a8 x22 a7 K)) (LdA H a8 6 fun l32=>StA H a7 l32.toArray 6 fun H119=>LdA H119 a7 6 fun l64=>K (.agg l64.toArray) H119)
def Zj.j4 (K:VK)(p3:OA)(a3 a4:Addr)(H:Hp):=
 LeI H (a4.add 0) fun x4=>BIf (decide (x4≥2)) (NN p3 fun a5=>LeP H (a5.add 1) fun p4=>NN p4 fun a6=>LeI H ((a6.add 23).add 2) fun x5=>St H ((a4.add 2).add 0) (.int .i64 x5) fun H6=>Zj.j6 K p3 a3 a4 H6) (Zj.j6 K p3 a3 a4 H)
def Zj (p1:OA)(H:Hp)(K:VK):Prop:=
 Nw H (.obj (.cells #[.int .i64 0,.int .i64 0,.int .i64 0,.int .i64 0,.int .i64 0,.int .i64 0] 29)) fun b1 H1=>HcI 58 #[.pointer p1] H1 fun x1 H2=>Nw H2 (.obj (.cells #[.int .i64 0,.int .i64 0,.int .i64 0,.int .i64 0,.int .i64 0,.int .i64 0] 29)) fun b2 H3=>StA H3 ⟨b2,0,none⟩ #[.int .i64 x1,.int .i64 0,.int .i64 0,.int .i64 0,.int .i64 0,.int .i64 0] 6 fun H4=>LeI H4 ((⟨b2,0,none⟩:Addr).add 0) fun x2=>BIf (decide (x2≥1)) (NN p1 fun a1=>LeP H4 (a1.add 1) fun p2=>NN p2 fun a2=>LeU H4 ((a2.add 23).add 5) fun x3=>St H4 (((⟨b2,0,none⟩:Addr).add 1).add 0) (.int .i64 (i64.wrap x3)) fun H5=>Zj.j4 K p1 ⟨b1,0,none⟩ ⟨b2,0,none⟩ H5) (Zj.j4 K p1 ⟨b1,0,none⟩ ⟨b2,0,none⟩ H4)
def Zj.Λ (K:VK):Zt:=⟨fun i=>match Nat.beq i 6 with|true=>some (fun E D H=>eP E 0 fun p5=>eN E 2 fun a7=>eN E 3 fun a8=>Zk D (Zj.j6 K p5 a7 a8 H))|false=>match Nat.beq i 4 with|true=>some (fun E D H=>eP E 0 fun p3=>eN E 2 fun a3=>eN E 3 fun a4=>Zk D (Zj.j4 K p3 a3 a4 H))|false=>none,fun i=>none,(fun i=>match Nat.beq i 7 with|true=>some ([3,7,11,15,19,22],[0,1,3,7,15,31,63,127,0,256,768,1792,3840,7936,16128,32512,0,65536,196608,458752,983040,2031616,4128768,8323072,255,16777471,50397183,117506047,268435455,536870911],0)|false=>none)⟩
theorem Zj.ok p1 H K (h:Zj p1 H K):Za prog 21 #[.pointer p1] H K:=
 okL (Λ:=(Zj.Λ K)) ZZ Tryz.func21 rfl rfl h (oC (fun E D H h=>by
   obtain⟨p3,e0,g2⟩:=GP h;obtain⟨a3,e2,g5⟩:=GN g2;obtain⟨a4,e3,g8⟩:=GN g5;obtain⟨rfl,h'⟩:=Zk.out g8;exact okJ (Λ:=(Zj.Λ K)) ZZ [] (Zb.cons e0 (Zb.cons e2 (Zb.cons e3 (Zb.nil _)))) h' (oC (fun E D H h=>by
     obtain⟨p5,e0,g2⟩:=GP h;obtain⟨a7,e2,g5⟩:=GN g2;obtain⟨a8,e3,g8⟩:=GN g5;obtain⟨rfl,h'⟩:=Zk.out g8;exact okJ (Λ:=(Zj.Λ K)) ZZ [] (Zb.cons e0 (Zb.cons e2 (Zb.cons e3 (Zb.nil _)))) h' oN) oN)) oN)
def aZz.j7 (K:VK)(p3:OA)(a3:Addr)(x5:Int)(H:Hp):=
 NN p3 fun a4=>LeP H (a4.add 0) fun p4=>NN p3 fun a5=>LeP H (a5.add 1) fun p5=>NN p5 fun a6=>LeP H (a6.add 21) fun p6=>NN p3 fun a7=>LeP H (a7.add 1) fun p7=>NN p7 fun a8=>LdA H (a8.add 4) 17 fun l2=>LeI H (a3.add 2) fun x6=>NN p3 fun a9=>LeP H (a9.add 1) fun p8=>NN p8 fun a10=>LeS H (a10.add 31) fun A1 n1 m1=>LeI H (a3.add 4) fun x7=>ixI x7 n1 (NN A1 fun a11=>LdA H (a11.add (x7.toNat*8)) 8 fun l3=>Hz 61 #[.pointer p4,.pointer p6,.agg l2.toArray,.int .i64 x6,.agg l3.toArray,.int .u32 x5] H fun v14 H4=>iZR v14 fun x8 x9=>(BIf (x9 !=0) (HcI 59 #[.pointer p3,.int .i64 x9] H4 fun x10 H5=>K (.tuple #[.bool false,.int .i64 x10]) H5) (LeI H4 (a3.add 4) fun x11=>St H4 ((a3.add 1).add 0) (.int .i64 4) fun H6=>St H6 ((a3.add 4).add 0) (.int .i64 (i64.wrap (x11+1))) fun H7=>St H7 ((a3.add 7).add 0) (.int .u32 x8) fun H8=>NN p3 fun a12=>LeP H8 (a12.add 1) fun p9=>LdA H8 a3 8 fun l7=>HcI 54 #[.pointer p9,.agg l7.toArray] H8 fun x12 H9=>HcI 59 #[.pointer p3,.int .i64 x12] H9 fun x13 H10=>BIf (x13 !=0) (K (.tuple #[.bool false,.int .i64 x13]) H10) (HcI 58 #[.pointer p3] H10 fun x14 H11=>K (.tuple #[.bool (x14==4),.int .i64 0]) H11))))
def aZz (p1:OA)(H:Hp)(K:VK):Prop:=
 HcI 58 #[.pointer p1] H fun x1 H1=>BIf (x1 !=3) (K (.tuple #[.bool false,.int .i64 5]) H1) (NN p1 fun a1=>LeP H1 (a1.add 1) fun p2=>NN p2 fun a2=>LdA H1 (a2.add 23) 8 fun l1=>Nw H1 (.obj (.cells #[.int .u64 0,.int .i64 0,.int .i64 0,.int .i64 0,.int .i64 0,.int .u32 0,.int .u32 0,.int .u32 0] 102)) fun b1 H2=>StA H2 ⟨b1,0,none⟩ l1.toArray 8 fun H3=>LeU H3 ((⟨b1,0,none⟩:Addr).add 7) fun x2=>LeI H3 ((⟨b1,0,none⟩:Addr).add 4) fun x3=>BIf (x3==0) (LeU H3 ((⟨b1,0,none⟩:Addr).add 6) fun x4=>aZz.j7 K p1 ⟨b1,0,none⟩ x4 H3) (aZz.j7 K p1 ⟨b1,0,none⟩ x2 H3))
def aZz.Λ (K:VK):Zt:=⟨fun i=>match Nat.beq i 7 with|true=>some (fun E D H=>eP E 0 fun p3=>eN E 4 fun a3=>eI E 5 .u32 fun x5=>Zk D (aZz.j7 K p3 a3 x5 H))|false=>none,fun i=>none,(fun i=>match Nat.beq i 11 with|true=>some ([0],[1,2,3,4,5],6)|false=>match Nat.beq i 7 with|true=>some ([3,7,10,14,17,19,23,26,28,30],[0,1,3,7,0,16,48,112,240,496,1008,0,2048,6144,14336,30720,63488,129024,0,262144,0,1048576,3145728,7340032,15728640,32505856,66060288,0,134217728,535822336,1072693248,0,4294967295,8589934591,17179869183,17179869183,34359738367,137438953471],0)|false=>none)⟩
theorem aZz.ok p1 H K (h:aZz p1 H K):Za prog 23 #[.pointer p1] H K:=
 okL (Λ:=(aZz.Λ K)) ZZ Tryz.func23 rfl rfl h (oC (fun E D H h=>by
   obtain⟨p3,e0,g2⟩:=GP h;obtain⟨a3,e4,g5⟩:=GN g2;obtain⟨x5,e5,g7⟩:=GI g5;obtain⟨rfl,h'⟩:=Zk.out g7;exact okJ (Λ:=(aZz.Λ K)) ZZ [] (Zb.cons e0 (Zb.cons e4 (Zb.cons e5 (Zb.nil _)))) h' oN) oN)
def bZ3 (p1:OA)(H:Hp)(K:VK):Prop:=
 HcI 58 #[.pointer p1] H fun x1 H1=>BIf (x1 !=4) (K (.tuple #[.slice none 0 0,.int .i64 12]) H1) (NN p1 fun a1=>LeP H1 (a1.add 1) fun p2=>NN p2 fun a2=>LeU H1 ((a2.add 23).add 7) fun x2=>Hz 62 #[.pointer p1,.int .i64 3,.int .u32 x2] H1 fun v4 H2=>dZ7 v4 fun A1 n1 m1 x3=>(K (.tuple #[.slice A1 n1 m1,.int .i64 x3]) H2))
theorem bZ3.ok p1 H K (h:bZ3 p1 H K):Za prog 26 #[.pointer p1] H K:=
 okN ZZ Tryz.func26 rfl rfl h
def aZo.j8 (K:VK)(p7:OA)(x5:Int)(p8:OA)(H:Hp):=
 BIf (x5 !=0) (NN p7 fun a4=>St H ((a4.add 1).add 0) (.pointer none) fun H8=>K (.int .i64 11) H8) (NN p8 fun a5=>LeP H (a5.add 22) fun p9=>Hz 65 #[.pointer p9] H fun v15 H9=>qZC v15 fun y2 c1 x6=>(Nw H9 (.obj (.cells #[.int .u64 0,.int .i64 0,.int .i64 0,.int .i64 0,.int .i64 0,.int .u32 0,.int .u32 0,.int .u32 0] 102)) fun b2 H10=>StA H10 ⟨b2,0,none⟩ y2 8 fun H11=>BIf (x6 !=0) (HcI 59 #[.pointer p7,.int .i64 x6] H11 fun x7 H12=>K (.int .i64 x7) H12) (LdA H11 ⟨b2,0,none⟩ 8 fun l16=>NN p8 fun a6=>StA H11 (a6.add 23) l16.toArray 8 fun H13=>Hz 66 #[.pointer p8] H13 fun v20 H14=>NN p7 fun a7=>St H14 ((a7.add 1).add 0) (.pointer p8) fun H15=>K (.int .i64 0) H15)))
def aZo (p1:OA)(H:Hp)(K:VK):Prop:=
 NN p1 fun a1=>LeP H (a1.add 0) fun p2=>Hz 64 #[.pointer p2] H fun v2 H1=>cZ9 v2 fun y1 x1=>(Nw H1 (.obj (.cells #[.int .i64 0,.int .i64 0,.int .i64 0,.int .i64 0] 27)) fun b1 H2=>StA H2 ⟨b1,0,none⟩ y1 4 fun H3=>BIf (x1==8) (HcI 59 #[.pointer p1,.int .i64 x1] H3 fun x2 H4=>K (.int .i64 x2) H4) (BIf (x1 !=0) (NN p1 fun a2=>St H3 ((a2.add 1).add 0) (.pointer none) fun H5=>K (.int .i64 11) H5) (NN p1 fun a3=>(LeP H3 (a3.add 0) fun p3=>LdA H3 ⟨b1,0,none⟩ 4 fun l4=>Hz 43 #[.pointer p3,.agg l4.toArray] H3 fun v7 H6=>dZV v7 fun p4 x3=>(aZo.j8 K p1 x3 p4 H6))∧(LdA H3 ⟨b1,0,none⟩ 4 fun l8=>LeP H3 (a3.add 0) fun p5=>Hz 43 #[.pointer p5,.agg l8.toArray] H3 fun v11 H7=>dZV v11 fun p6 x4=>(aZo.j8 K p1 x4 p6 H7)))))
def aZo.Λ (K:VK):Zt:=⟨fun i=>match Nat.beq i 8 with|true=>some (fun E D H=>eP E 0 fun p7=>eI E 4 .i64 fun x5=>eP E 5 fun p8=>Zk D (aZo.j8 K p7 x5 p8 H))|false=>none,fun i=>none,(fun i=>match Nat.beq i 7 with|true=>some ([],[0,1,3,7,0,31,63,127,127,255,1023],0)|false=>none)⟩
theorem aZo.ok p1 H K (h:aZo p1 H K):Za prog 30 #[.pointer p1] H K:=
 okL (Λ:=(aZo.Λ K)) ZZ Tryz.func30 rfl rfl h (oC (fun E D H h=>by
   obtain⟨p7,e0,g2⟩:=GP h;obtain⟨x5,e4,g4⟩:=GI g2;obtain⟨p8,e5,g6⟩:=GP g4;obtain⟨rfl,h'⟩:=Zk.out g6;exact okJ (Λ:=(aZo.Λ K)) ZZ [] (Zb.cons e0 (Zb.cons e4 (Zb.cons e5 (Zb.nil _)))) h' oN) oN)
def Zy.j4 (K:VK)(x38 x39:Int)(a13:Addr)(x40:Int)(H:Hp):=
 BIf (x40 !=0) (K (.int .i64 x40) H) (LeI H (a13.add 1) fun x41=>Hz 71 #[.int .i64 x38,.int .i64 x41] H fun v77 H31=>jZm v77 fun x42 x43=>(BIf (x43 !=0) (K (.int .i64 6) H31) (BIf (decide (x39<x42)) (K (.int .i64 6) H31) (K (.int .i64 0) H31))))
def Zy.q1 (a4:Addr)(H:Hp)(x1 x3:Int)(K:VK)(x2:Int):=
 (QcI 42 #[.pointer (some (a4.add 0))] H fun x4=>(Qz 70 #[.int .i64 x1,.int .i64 x3,.int .i64 x4] H fun v5=>cZ9 v5 fun y1 x5=>(Nw H (.obj (.cells #[.int .i64 0,.int .i64 0,.int .i64 0,.int .i64 0,.int .i64 0,.int .i64 0,.int .i64 0,.int .i64 0,.int .i64 0,.int .i64 0,.int .i64 0,.int .i64 0,.int .i64 0,.int .i64 0,.int .i64 0,.int .i64 0,.int .i64 0] 90)) fun b1 H1=>StA H1 ⟨b1,0,none⟩ y1 17 fun H2=>Zy.j4 K x1 x2 ⟨b1,0,none⟩ x5 H2))∧(Nw H (.obj (.cells #[.int .i64 0,.int .i64 0,.int .i64 0,.int .i64 0,.int .i64 0,.int .i64 0,.int .i64 0,.int .i64 0,.int .i64 0,.int .i64 0,.int .i64 0,.int .i64 0,.int .i64 0,.int .i64 0,.int .i64 0,.int .i64 0,.int .i64 0] 90)) fun b2 H3=>Qz 70 #[.int .i64 x1,.int .i64 x3,.int .i64 x4] H3 fun v8=>cZ9 v8 fun y2 x6=>(StA H3 ⟨b2,0,none⟩ y2 17 fun H4=>Zy.j4 K x1 x2 ⟨b2,0,none⟩ x6 H4)))∧(Nw H (.obj (.cells #[.int .i64 0,.int .i64 0,.int .i64 0,.int .i64 0,.int .i64 0,.int .i64 0,.int .i64 0,.int .i64 0,.int .i64 0,.int .i64 0,.int .i64 0,.int .i64 0,.int .i64 0,.int .i64 0,.int .i64 0,.int .i64 0,.int .i64 0] 90)) fun b3 H5=>QcI 42 #[.pointer (some (a4.add 0))] H5 fun x7=>Qz 70 #[.int .i64 x1,.int .i64 x3,.int .i64 x7] H5 fun v12=>cZ9 v12 fun y3 x8=>(StA H5 ⟨b3,0,none⟩ y3 17 fun H6=>Zy.j4 K x1 x2 ⟨b3,0,none⟩ x8 H6))
def Zy.q2 (a5:Addr)(H7:Hp)(x1 x3:Int)(b4:Nat)(K:VK)(x2:Int):=
 QcI 42 #[.pointer (some (a5.add 0))] H7 fun x9=>Qz 70 #[.int .i64 x1,.int .i64 x3,.int .i64 x9] H7 fun v17=>cZ9 v17 fun y4 x10=>(StA H7 ⟨b4,0,none⟩ y4 17 fun H8=>Zy.j4 K x1 x2 ⟨b4,0,none⟩ x10 H8)
def Zy.q3 (a3:Addr)(H:Hp)(a6:Addr)(x1:Int)(K:VK)(x2:Int):=
 (QcI 41 #[.pointer (some (a3.add 0))] H fun x11=>Zy.q1 a6 H x1 x11 K x2)∧(Nw H (.obj (.cells #[.int .i64 0,.int .i64 0,.int .i64 0,.int .i64 0,.int .i64 0,.int .i64 0,.int .i64 0,.int .i64 0,.int .i64 0,.int .i64 0,.int .i64 0,.int .i64 0,.int .i64 0,.int .i64 0,.int .i64 0,.int .i64 0,.int .i64 0] 90)) fun b8 H15=>QcI 41 #[.pointer (some (a3.add 0))] H15 fun x17=>Zy.q2 a6 H15 x1 x17 b8 K x2)
def Zy (p1:OA)(x1 x2:Int)(H:Hp)(K:VK):Prop:=
 BIf (decide (x2<1)) (K (.int .i64 1) H) (BIf (decide (x2>16777216)) (K (.int .i64 1) H) (NN p1 fun a1=>NN p1 fun a2=>(LeP H (a1.add 0) fun p2=>NN p2 fun a3=>(QcI 41 #[.pointer (some (a3.add 0))] H fun x3=>(LeP H (a2.add 0) fun p3=>NN p3 fun a4=>Zy.q1 a4 H x1 x3 K x2)∧(Nw H (.obj (.cells #[.int .i64 0,.int .i64 0,.int .i64 0,.int .i64 0,.int .i64 0,.int .i64 0,.int .i64 0,.int .i64 0,.int .i64 0,.int .i64 0,.int .i64 0,.int .i64 0,.int .i64 0,.int .i64 0,.int .i64 0,.int .i64 0,.int .i64 0] 90)) fun b4 H7=>LeP H7 (a2.add 0) fun p4=>NN p4 fun a5=>Zy.q2 a5 H7 x1 x3 b4 K x2))∧(LeP H (a2.add 0) fun p5=>NN p5 fun a6=>Zy.q3 a3 H a6 x1 K x2)∧(Nw H (.obj (.cells #[.int .i64 0,.int .i64 0,.int .i64 0,.int .i64 0,.int .i64 0,.int .i64 0,.int .i64 0,.int .i64 0,.int .i64 0,.int .i64 0,.int .i64 0,.int .i64 0,.int .i64 0,.int .i64 0,.int .i64 0,.int .i64 0,.int .i64 0] 90)) fun b9 H17=>QcI 41 #[.pointer (some (a3.add 0))] H17 fun x20=>LeP H17 (a2.add 0) fun p6=>NN p6 fun a7=>Zy.q2 a7 H17 x1 x20 b9 K x2))∧(LeP H (a2.add 0) fun p7=>NN p7 fun a8=>(LeP H (a1.add 0) fun p8=>NN p8 fun a9=>Zy.q3 a9 H a8 x1 K x2)∧(Nw H (.obj (.cells #[.int .i64 0,.int .i64 0,.int .i64 0,.int .i64 0,.int .i64 0,.int .i64 0,.int .i64 0,.int .i64 0,.int .i64 0,.int .i64 0,.int .i64 0,.int .i64 0,.int .i64 0,.int .i64 0,.int .i64 0,.int .i64 0,.int .i64 0] 90)) fun b14 H27=>LeP H27 (a1.add 0) fun p9=>NN p9 fun a10=>QcI 41 #[.pointer (some (a10.add 0))] H27 fun x32=>Zy.q2 a8 H27 x1 x32 b14 K x2))∧(Nw H (.obj (.cells #[.int .i64 0,.int .i64 0,.int .i64 0,.int .i64 0,.int .i64 0,.int .i64 0,.int .i64 0,.int .i64 0,.int .i64 0,.int .i64 0,.int .i64 0,.int .i64 0,.int .i64 0,.int .i64 0,.int .i64 0,.int .i64 0,.int .i64 0] 90)) fun b15 H29=>LeP H29 (a1.add 0) fun p10=>NN p10 fun a11=>QcI 41 #[.pointer (some (a11.add 0))] H29 fun x35=>LeP H29 (a2.add 0) fun p11=>NN p11 fun a12=>Zy.q2 a12 H29 x1 x35 b15 K x2)))
def Zy.Λ (K:VK):Zt:=⟨fun i=>match Nat.beq i 4 with|true=>some (fun E D H=>eI E 1 .i64 fun x38=>eI E 2 .i64 fun x39=>eN E 7 fun a13=>eI E 8 .i64 fun x40=>Zk D (Zy.j4 K x38 x39 a13 x40 H))|false=>none,fun i=>none,(fun i=>match Nat.beq i 3 with|true=>some ([4,7,11,14,15],[0,0,2,6,14,30,62,126,0,256,768,1792,3840,7936,16382,32767,65535,131071,131071,0,786431,2097151],0)|false=>none)⟩
theorem Zy.ok p1 x1 x2 H K (h:Zy p1 x1 x2 H K):Za prog 40 #[.pointer p1,.int .i64 x1,.int .i64 x2] H K:=
 okL (Λ:=(Zy.Λ K)) ZZ Tryz.func40 rfl rfl h (oC (fun E D H h=>by
   obtain⟨x38,e1,g2⟩:=GI h;obtain⟨x39,e2,g4⟩:=GI g2;obtain⟨a13,e7,g7⟩:=GN g4;obtain⟨x40,e8,g9⟩:=GI g7;obtain⟨rfl,h'⟩:=Zk.out g9;exact okJ (Λ:=(Zy.Λ K)) ZZ [] (Zb.cons e1 (Zb.cons e2 (Zb.cons e7 (Zb.cons e8 (Zb.nil _))))) h' oN) oN)
def bZE.q1 (l9 l10:List Value)(H6:Hp)(p3 p2:OA)(K:VK):Prop:=
 nZ1 l9.toArray.toList fun x8 x9 x10 x11=>(gZq l10.toArray.toList fun x12 x13 x14 x15 x16 x17 x18 x19 x20 x21 x22 x23 x24 x25 x26 x27 x28=>(Nw H6 (.obj (.cells #[.int .i64 x8,.int .i64 x9,.int .i64 x10,.int .i64 x11,.int .i64 x12,.int .i64 x13,.int .i64 x14,.int .i64 x15,.int .i64 x16,.int .i64 x17,.int .i64 x18,.int .i64 x19,.int .i64 x20,.int .i64 x21,.int .i64 x22,.int .i64 x23,.int .i64 x24,.int .i64 x25,.int .i64 x26,.int .i64 x27,.int .i64 x28,.pointer p3,.pointer p2,.int .u64 0,.int .i64 0,.int .i64 0,.int .i64 0,.int .i64 0,.int .u32 0,.int .u32 0,.int .u32 0,.slice none 0 0] 105)) fun b3 H7=>K (.tuple #[.pointer (some ⟨b3,0,none⟩),.int .i64 0]) H7))
def bZE (p1:OA)(x1 x2 x3 x4:Int)(H:Hp)(K:VK):Prop:=
 Nw H (.obj (.cells #[.int .i64 x1,.int .i64 x2,.int .i64 x3,.int .i64 x4] 27)) fun b1 H1=>LdA H1 ⟨b1,0,none⟩ 4 fun l1=>Hz 69 #[.agg l1.toArray] H1 fun v1 H2=>cZ9 v1 fun y1 x5=>(Nw H2 (.obj (.cells #[.int .i64 0,.int .i64 0,.int .i64 0,.int .i64 0,.int .i64 0,.int .i64 0,.int .i64 0,.int .i64 0,.int .i64 0,.int .i64 0,.int .i64 0,.int .i64 0,.int .i64 0,.int .i64 0,.int .i64 0,.int .i64 0,.int .i64 0] 90)) fun b2 H3=>StA H3 ⟨b2,0,none⟩ y1 17 fun H4=>BIf (x5 !=0) (K (.tuple #[.pointer none,.int .i64 x5]) H4) (LdA H4 ((⟨b2,0,none⟩:Addr).add 2) 3 fun l5=>Hz 72 #[.pointer p1,.agg l5.toArray] H4 fun v4 H5=>dZV v4 fun p2 x6=>(BIf (x6 !=0) (K (.tuple #[.pointer none,.int .i64 x6]) H5) (LeI H5 ((⟨b1,0,none⟩:Addr).add 3) fun x7=>(LdA H5 ⟨b1,0,none⟩ 4 fun l9=>(LdA H5 ⟨b2,0,none⟩ 17 fun l10=>HcP 73 #[.int .i64 x7] H5 fun p3 H6=>bZE.q1 l9 l10 H6 p3 p2 K)∧(HcP 73 #[.int .i64 x7] H5 fun p4 H8=>LdA H8 ⟨b2,0,none⟩ 17 fun l32=>bZE.q1 l9 l32 H8 p4 p2 K))∧(LdA H5 ⟨b2,0,none⟩ 17 fun l54=>(LdA H5 ⟨b1,0,none⟩ 4 fun l55=>HcP 73 #[.int .i64 x7] H5 fun p5 H10=>bZE.q1 l55 l54 H10 p5 p2 K)∧(HcP 73 #[.int .i64 x7] H5 fun p6 H12=>LdA H12 ⟨b1,0,none⟩ 4 fun l77=>bZE.q1 l77 l54 H12 p6 p2 K))∧(HcP 73 #[.int .i64 x7] H5 fun p7 H14=>LdA H14 ⟨b1,0,none⟩ 4 fun l99=>LdA H14 ⟨b2,0,none⟩ 17 fun l100=>bZE.q1 l99 l100 H14 p7 p2 K)))))
theorem bZE.ok p1 x1 x2 x3 x4 H K (h:bZE p1 x1 x2 x3 x4 H K):Za prog 43 #[.pointer p1,.agg #[.int .i64 x1,.int .i64 x2,.int .i64 x3,.int .i64 x4]] H K:=
 ok0 (fun i=>match Nat.beq i 7 with|true=>some ([0,1,3],[0,0,0,4,12,0,63,127,255,511],0)|false=>none) ZZ Tryz.func43 rfl rfl h
def cZh (p1:OA)(H:Hp)(K:VK):Prop:=
 NN p1 fun a1=>LeP H a1 fun p2=>NN p2 fun a2=>LeP H (a2.add 0) fun p3=>NN p3 fun a3=>QcI 42 #[.pointer (some (a3.add 0))] H fun x1=>(NN p1 fun a4=>LeP H a4 fun p4=>NN p4 fun a5=>(LeP H (a5.add 0) fun p5=>MkS prog 5 x1 x1 H fun v6 H1=>DSl v6 fun A1 n1 m1=>HcI 45 #[.pointer p5,.int .i64 0,.slice A1 n1 m1] H1 fun x2 H2=>K (.int .i64 x2) H2)∧(MkS prog 5 x1 x1 H fun v8 H3=>DSl v8 fun A2 n2 m2=>LeP H3 (a5.add 0) fun p6=>HcI 45 #[.pointer p6,.int .i64 0,.slice A2 n2 m2] H3 fun x3 H4=>K (.int .i64 x3) H4))∧(MkS prog 5 x1 x1 H fun v11 H5=>DSl v11 fun A3 n3 m3=>NN p1 fun a6=>LeP H5 a6 fun p7=>NN p7 fun a7=>LeP H5 (a7.add 0) fun p8=>HcI 45 #[.pointer p8,.int .i64 0,.slice A3 n3 m3] H5 fun x4 H6=>K (.int .i64 x4) H6)
theorem cZh.ok p1 H K (h:cZh p1 H K):Za prog 44 #[.pointer p1] H K:=
 ok0 (fun i=>match Nat.beq i 1 with|true=>some ([0,3,4,7,10],[0,1,3,7,0,16,48,112,240,496,1008,2032,4095,8191],0)|false=>none) ZZ Tryz.func44 rfl rfl h
def ZH.l2 (K:VK):Nat→OA→OA→Nat→Nat→Int→Int→Hp→Prop
 |0,_,_,_,_,_,_,_=>False
 |k+1,p2,A2,n2,m2,x1,x2,H=>
  let R2:=ZH.l2 K k
  BIf (decide (x2<x1)) (ixI x2 n2 (NN A2 fun a1=>Ld H (a1.add (x2.toNat*1)) fun v1=>DFn v1 fun q1 q2 q3=>dZJ prog q1 ((q2++ #[])++q3) H fun v2 H1=>DR prog (bZv prog q1) v2 fun v3=>DI .i64 v3 fun x3=>BIf (x3 !=0) (HcI 59 #[.pointer p2,.int .i64 x3] H1 fun x4 H2=>K (.int .i64 x4) H2) (R2 p2 A2 n2 m2 x1 (i64.wrap (x2+1)) H1))) (K (.int .i64 0) H)
def ZH (p1 A1:OA)(n1 m1:Nat)(H:Hp)(K:VK):Prop:=
 (∃ k,ZH.l2 K k p1 A1 n1 m1 (n1:Int) 0 H)
def ZH.l2.L (K:VK)(k:Nat):Mid:=fun E D H=>
 eP E 0 fun p2=>DG (E.get? 8) fun w8=>DSl w8 fun A2 n2 m2=>eI E 9 .i64 fun x1=>eI E 10 .i64 fun x2=>Zk D (ZH.l2 K k p2 A2 n2 m2 x1 x2 H)
def ZH.Λ2 (_:VK)(_R2:OA→OA→Nat→Nat→Int→Int→Hp→Prop):Zt:=Zt.none (fun _=>none)
def ZH.Λ (K:VK):Zt:=⟨fun i=>none,fun i=>match Nat.beq i 2 with|true=>some (fun E D H=>∃ k,ZH.l2.L K k E D H)|false=>none,(fun _=>none)⟩
theorem ZH.ok p1 A1 n1 m1 H K (h:ZH p1 A1 n1 m1 H K):Za prog 46 #[.pointer p1,.slice A1 n1 m1] H K:=
 okL (Λ:=(ZH.Λ K)) ZZ Tryz.func46 rfl rfl h (oC (fun E D H h=>by
   refine Safe.loop' (ZH.l2.L K) (fun E D H h=>?_) (fun k E D H h=>?_) E D H h
   ·obtain⟨w0,e0,g1⟩:=DG.out h;obtain⟨p2,rfl,g2⟩:=DP.out g1;obtain⟨w8,e8,g3⟩:=DG.out g2;obtain⟨A2,n2,m2,rfl,g4⟩:=DSl.out g3;obtain⟨w9,e9,g5⟩:=DG.out g4;obtain⟨x1,rfl,g6⟩:=DI.out g5;obtain⟨w10,e10,g7⟩:=DG.out g6;obtain⟨x2,rfl,g8⟩:=DI.out g7;obtain⟨rfl,h'⟩:=Zk.out g8;exact h'
   ·obtain⟨p2,e0,g2⟩:=GP h;obtain⟨w8,e8,g3⟩:=DG.out g2;obtain⟨A2,n2,m2,rfl,g4⟩:=DSl.out g3;obtain⟨x1,e9,g6⟩:=GI g4;obtain⟨x2,e10,g8⟩:=GI g6;obtain⟨rfl,h'⟩:=Zk.out g8;exact okJ (Λ:=(ZH.Λ2 K (ZH.l2 K k))) ZZ [] (Zb.cons e0 (Zb.cons e8 (Zb.cons e9 (Zb.cons e10 (Zb.nil _))))) h' oN) oN)
def cZi (p1 p2:OA)(H:Hp)(K:VK):Prop:=
 NN p1 fun a1=>LeP H a1 fun p3=>NN p3 fun a2=>LeP H (a2.add 0) fun p4=>NN p2 fun a3=>LdA H a3 4 fun l1=>HcI 50 #[.pointer p4,.agg l1.toArray] H fun x1 H1=>K (.int .i64 x1) H1
theorem cZi.ok p1 p2 H K (h:cZi p1 p2 H K):Za prog 49 #[.pointer p1,.pointer p2] H K:=
 ok0 (fun i=>match Nat.beq i 1 with|true=>some ([],[0,1,2,3,4],5)|false=>none) ZZ Tryz.func49 rfl rfl h
def cZz (p1 p2:OA)(H:Hp)(K:VK):Prop:=
 NN p1 fun a1=>LeP H a1 fun p3=>NN p2 fun a2=>LdA H a2 8 fun l1=>HcI 54 #[.pointer p3,.agg l1.toArray] H fun x1 H1=>K (.int .i64 x1) H1
theorem cZz.ok p1 p2 H K (h:cZz p1 p2 H K):Za prog 53 #[.pointer p1,.pointer p2] H K:=
 okN ZZ Tryz.func53 rfl rfl h
def cZL (p1:OA)(y1:Array Value)(H:Hp)(K:VK):Prop:=
 Nw H (.obj (.cells y1 102)) fun b1 H1=>NN p1 fun a1=>LeW H1 ((a1.add 23).add 0) fun x1=>St H1 (((⟨b1,0,none⟩:Addr).add 0).add 0) (.int .u64 (u64.wrap (x1+1))) fun H2=>NN p1 fun a2=>LeP H2 (a2.add 22) fun p2=>LdA H2 ⟨b1,0,none⟩ 8 fun l1=>HcI 81 #[.pointer p2,.agg l1.toArray] H2 fun x2 H3=>BIf (x2==0) (LdA H3 ⟨b1,0,none⟩ 8 fun l2=>NN p1 fun a3=>StA H3 (a3.add 23) l2.toArray 8 fun H4=>Hz 66 #[.pointer p1] H4 fun v4 H5=>K (.int .i64 x2) H5) (K (.int .i64 x2) H3)
theorem cZL.ok p1 y1 H K (h:cZL p1 y1 H K):Za prog 54 #[.pointer p1,.agg y1] H K:=
 ok0 (fun i=>match Nat.beq i 2 with|true=>some ([],[0,1,2,3,4],5)|false=>none) ZZ Tryz.func54 rfl rfl h
def cZA (p1 p2 p3 p4 p5:OA)(H:Hp)(K:VK):Prop:=
 NN p1 fun a1=>LeP H a1 fun p6=>NN p2 fun a2=>LeP H a2 fun p7=>NN p7 fun a3=>LeP H (a3.add 0) fun p8=>NN p3 fun a4=>LeI H a4 fun x1=>NN p4 fun a5=>LeS H a5 fun A1 n1 m1=>Hz 56 #[.pointer p6,.pointer p8,.int .i64 x1,.slice A1 n1 m1] H fun v6 H1=>iZR v6 fun x2 x3=>(NN p5 fun a6=>St H1 (a6.add 0) (.int .u32 x2) fun H2=>K (.int .i64 x3) H2)
theorem cZA.ok p1 p2 p3 p4 p5 H K (h:cZA p1 p2 p3 p4 p5 H K):Za prog 55 #[.pointer p1,.pointer p2,.pointer p3,.pointer p4,.pointer p5] H K:=
 ok0 (fun i=>match Nat.beq i 1 with|true=>some ([0,1,4,5,6],[0,0,2,6,14,0,0,127,255,511,511,1023,4095],0)|false=>none) ZZ Tryz.func55 rfl rfl h
def ZC.j6 (K:VK)(x8:Int)(p11:OA)(H:Hp):=
 BIf (x8 !=0) (K (.tuple #[.int .u32 0,.int .i64 x8]) H) (Hz 84 #[.pointer p11] H fun v11 H5=>iZR v11 fun x9 x10=>(K (.tuple #[.int .u32 x9,.int .i64 x10]) H5))
def ZC.j4 (K:VK)(p9:OA)(x6:Int)(p10:OA)(H:Hp):=
 BIf (x6==0) (HcI 47 #[.pointer p9] H fun x7 H4=>ZC.j6 K x7 p10 H4) (ZC.j6 K x6 p10 H)
def ZC.j2 (K:VK)(p7 A2:OA)(n2 m2:Nat)(x4:Int)(p8:OA)(H:Hp):=
 BIf (x4==0) (HcI 83 #[.pointer p8,.int .i64 0,.slice A2 n2 m2] H fun x5 H3=>ZC.j4 K p7 x5 p8 H3) (ZC.j4 K p7 x4 p8 H)
def ZC (p1 p2:OA)(x1:Int)(A1:OA)(n1 m1:Nat)(H:Hp)(K:VK):Prop:=
 NN p1 fun a1=>NN p1 fun a2=>(LeP H (a1.add 21) fun p3=>LdA H (a2.add 4) 17 fun l1=>Hz 82 #[.pointer p2,.pointer p3,.agg l1.toArray,.int .i64 0,.int .i64 x1] H fun v2 H1=>dZV v2 fun p4 x2=>(ZC.j2 K p2 A1 n1 m1 x2 p4 H1))∧(LdA H (a2.add 4) 17 fun l5=>LeP H (a1.add 21) fun p5=>Hz 82 #[.pointer p2,.pointer p5,.agg l5.toArray,.int .i64 0,.int .i64 x1] H fun v6 H2=>dZV v6 fun p6 x3=>(ZC.j2 K p2 A1 n1 m1 x3 p6 H2))
def ZC.Λ (K:VK):Zt:=⟨fun i=>match Nat.beq i 6 with|true=>some (fun E D H=>eI E 9 .i64 fun x8=>eP E 10 fun p11=>Zk D (ZC.j6 K x8 p11 H))|false=>match Nat.beq i 4 with|true=>some (fun E D H=>eP E 1 fun p9=>eI E 9 .i64 fun x6=>eP E 10 fun p10=>Zk D (ZC.j4 K p9 x6 p10 H))|false=>match Nat.beq i 2 with|true=>some (fun E D H=>eP E 1 fun p7=>DG (E.get? 3) fun w3=>DSl w3 fun A2 n2 m2=>eI E 9 .i64 fun x4=>eP E 10 fun p8=>Zk D (ZC.j2 K p7 A2 n2 m2 x4 p8 H))|false=>none,fun i=>none,(fun i=>match Nat.beq i 1 with|true=>some ([],[0,0,2,6,14,0,32,96,224,0,1023,2047,4095,4095,8191,32767],0)|false=>none)⟩
theorem ZC.ok p1 p2 x1 A1 n1 m1 H K (h:ZC p1 p2 x1 A1 n1 m1 H K):Za prog 56 #[.pointer p1,.pointer p2,.int .i64 x1,.slice A1 n1 m1] H K:=
 okL (Λ:=(ZC.Λ K)) ZZ Tryz.func56 rfl rfl h (oC (fun E D H h=>by
   obtain⟨p7,e1,g2⟩:=GP h;obtain⟨w3,e3,g3⟩:=DG.out g2;obtain⟨A2,n2,m2,rfl,g4⟩:=DSl.out g3;obtain⟨x4,e9,g6⟩:=GI g4;obtain⟨p8,e10,g8⟩:=GP g6;obtain⟨rfl,h'⟩:=Zk.out g8;exact okJ (Λ:=(ZC.Λ K)) ZZ [] (Zb.cons e1 (Zb.cons e3 (Zb.cons e9 (Zb.cons e10 (Zb.nil _))))) h' (oC (fun E D H h=>by
     obtain⟨p9,e1,g2⟩:=GP h;obtain⟨x6,e9,g4⟩:=GI g2;obtain⟨p10,e10,g6⟩:=GP g4;obtain⟨rfl,h'⟩:=Zk.out g6;exact okJ (Λ:=(ZC.Λ K)) ZZ [] (Zb.cons e1 (Zb.cons e9 (Zb.cons e10 (Zb.nil _)))) h' (oC (fun E D H h=>by
       obtain⟨x8,e9,g2⟩:=GI h;obtain⟨p11,e10,g4⟩:=GP g2;obtain⟨rfl,h'⟩:=Zk.out g4;exact okJ (Λ:=(ZC.Λ K)) ZZ [] (Zb.cons e9 (Zb.cons e10 (Zb.nil _))) h' oN) oN)) oN)) oN)
def bZe.q1 (p2:OA)(H1:Hp)(x1:Int)(p3:OA)(K:VK):Prop:=
 NN p2 fun a3=>St H1 ((a3.add 6).add 0) (.int .u32 x1) fun H2=>NN p3 fun a6=>LeP H2 a6 fun p4=>NN p2 fun a8=>LdA H2 a8 8 fun l1=>HcI 54 #[.pointer p4,.agg l1.toArray] H2 fun x3 H5=>K (.int .i64 x3) H5
def bZe (p1 p2 p3:OA)(H:Hp)(K:VK):Prop:=
 NN p2 fun a1=>(NN p1 fun a2=>LeU H a2 fun x1=>St H ((a1.add 1).add 0) (.int .i64 2) fun H1=>bZe.q1 p2 H1 x1 p3 K)∧(St H ((a1.add 1).add 0) (.int .i64 2) fun H3=>NN p1 fun a4=>LeU H3 a4 fun x2=>bZe.q1 p2 H3 x2 p3 K)
theorem bZe.ok p1 p2 p3 H K (h:bZe p1 p2 p3 H K):Za prog 57 #[.pointer p1,.pointer p2,.pointer p3] H K:=
 ok0 (fun i=>match Nat.beq i 1 with|true=>some ([],[0,0,2,7,15],0)|false=>none) ZZ Tryz.func57 rfl rfl h
def cZK (p1:OA)(H:Hp)(K:VK):Prop:=
 NN p1 fun a1=>LeP H (a1.add 1) fun p2=>BIf p2.isNone (K (.int .i64 0) H) (NN p1 fun a2=>LeP H (a2.add 1) fun p3=>NN p3 fun a3=>LeI H ((a3.add 23).add 1) fun x1=>BIf (x1==2) (K (.int .i64 2) H) (NN p1 fun a4=>LeP H (a4.add 1) fun p4=>NN p4 fun a5=>LeI H ((a5.add 23).add 1) fun x2=>BIf (decide (x2<3)) (K (.int .i64 1) H) (NN p1 fun a6=>LeP H (a6.add 1) fun p5=>NN p5 fun a7=>LeI H ((a7.add 23).add 4) fun x3=>NN p1 fun a8=>LeP H (a8.add 1) fun p6=>NN p6 fun a9=>LeS H (a9.add 31) fun A1 n1 m1=>BIf (decide (x3<(n1:Int))) (K (.int .i64 3) H) (K (.int .i64 4) H))))
theorem cZK.ok p1 H K (h:cZK p1 H K):Za prog 58 #[.pointer p1] H K:=
 okN ZZ Tryz.func58 rfl rfl h
def bZk (p1:OA)(x1:Int)(H:Hp)(K:VK):Prop:=
 BIf (x1==8) (NN p1 fun a1=>St H ((a1.add 1).add 0) (.pointer none) fun H1=>K (.int .i64 x1) H1) (K (.int .i64 x1) H)
theorem bZk.ok p1 x1 H K (h:bZk p1 x1 H K):Za prog 59 #[.pointer p1,.int .i64 x1] H K:=
 okN ZZ Tryz.func59 rfl rfl h
def cZY (p1:OA)(x1 x2:Int)(H:Hp)(K:VK):Prop:=
 NN p1 fun a1=>LeP H (a1.add 0) fun p2=>NN p1 fun a2=>LeP H (a2.add 1) fun p3=>NN p3 fun a3=>LeP H (a3.add 21) fun p4=>NN p1 fun a4=>LeP H (a4.add 1) fun p5=>NN p5 fun a5=>LdA H (a5.add 4) 17 fun l1=>NN p1 fun a6=>LeP H (a6.add 1) fun p6=>NN p6 fun a7=>LeI H ((a7.add 23).add 2) fun x3=>Hz 82 #[.pointer p2,.pointer p4,.agg l1.toArray,.int .i64 x1,.int .i64 x3] H fun v7 H1=>dZV v7 fun p7 x4=>(BIf (x4 !=0) (HcI 59 #[.pointer p1,.int .i64 x4] H1 fun x5 H2=>K (.tuple #[.slice none 0 0,.int .i64 x5]) H2) (Hz 84 #[.pointer p7] H1 fun v11 H3=>iZR v11 fun x6 x7=>(BIf (x7 !=0) (HcI 59 #[.pointer p1,.int .i64 x7] H3 fun x8 H4=>K (.tuple #[.slice none 0 0,.int .i64 x8]) H4) (BIf (x6 !=x2) (K (.tuple #[.slice none 0 0,.int .i64 9]) H3) (HcI 89 #[.pointer p7] H3 fun x9 H5=>MkS prog 82 x9 x9 H5 fun v16 H6=>DSl v16 fun A1 n1 m1=>HcI 90 #[.pointer p7,.int .i64 0,.slice A1 n1 m1] H6 fun x10 H7=>HcI 59 #[.pointer p1,.int .i64 x10] H7 fun x11 H8=>BIf (x11 !=0) (K (.tuple #[.slice none 0 0,.int .i64 x11]) H8) (K (.tuple #[.slice A1 n1 m1,.int .i64 0]) H8))))))
theorem cZY.ok p1 x1 x2 H K (h:cZY p1 x1 x2 H K):Za prog 62 #[.pointer p1,.int .i64 x1,.int .u32 x2] H K:=
 ok0 (fun i=>match Nat.beq i 1 with|true=>some ([3,7,10,14,17,22,26],[0,1,3,7,0,16,48,112,240,496,1008,0,2048,6144,14336,30720,63488,129024,0,0,524288,1572864,3670016,7864320,16252928,33030144,66584576,134217727,268435455,536870911,536870911,1073741823,4294967295],0)|false=>none) ZZ Tryz.func62 rfl rfl h
def dZw (p1:OA)(H:Hp)(K:VK):Prop:=
 NN p1 fun a1=>St H ((a1.add 31).add 0) (.slice none 0 0) fun H1=>NN p1 fun a2=>LeI H1 ((a2.add 23).add 1) fun x1=>BIf (decide (x1≥3)) (NN p1 fun a3=>LeI H1 ((a3.add 23).add 2) fun x2=>NN p1 fun a4=>LeI H1 ((a4.add 23).add 3) fun x3=>NN p1 fun a5=>LeI H1 ((a5.add 4).add 1) fun x4=>NN p1 fun a6=>LeI H1 ((a6.add 0).add 3) fun x5=>Hz 85 #[.int .i64 x2,.int .i64 x3,.int .i64 x4,.int .i64 x5] H1 fun v6 H2=>dZ7 v6 fun A1 n1 m1 x6=>(NN p1 fun a7=>St H2 ((a7.add 31).add 0) (.slice A1 n1 m1) fun H3=>K (.tuple #[]) H3)) (K (.tuple #[]) H1)
theorem dZw.ok p1 H K (h:dZw p1 H K):Za prog 66 #[.pointer p1] H K:=
 ok0 (fun i=>match Nat.beq i 2 with|true=>some ([5,10,15,20],[0,0,2,6,14,30,0,64,192,448,960,0,2048,6144,14336,30720,0,65536,196608,458752,983040,2097150,4194302,8388606,8388606,16777215,50331647,117440511],0)|false=>none) ZZ Tryz.func66 rfl rfl h
end W
namespace Eng
open Go Go.Hw Go.Form W Shp Dsk Str Are Trn Pas Pln Rec Srt Rng
structure Eg where
 most:Nat
 sec:Nat
 size:Nat
 arena:Nat
 r:R
 peak:Int
def Eg.per (e:Eg):Nat:=e.size/8
def psE (e:Eg):List Pz:=if 3≤e.r.kd then aZb (fZE e.r) e.r.kk.toNat e.per e.arena else []
def jZy (e:Eg)(ap rp:Nat)(A:OA)(n m:Nat):Array Value:=
 let q:Int:=Lay.ZF e.most e.per
 let w:Int:=(2^e.most:Nat)
 #[.int .i64 e.most,.int .i64 e.sec,.int .i64 e.size,.int .i64 e.arena,.int .i64 e.most,.int .i64 e.per,.int .i64 1,.int .i64 8,.int .i64 ((8*e.per:Nat):Int),.int .i64 9,.int .i64 q,.int .i64 w,.int .i64 (9+q),.int .i64 q,.int .i64 w,
  .int .i64 (9+2*q),.int .i64 q,.int .i64 w,.int .i64 (9+3*q),.int .i64 q,.int .i64 w,.pointer (some ⟨ap,0,none⟩),.pointer (some ⟨rp,0,none⟩),
  .int .u64 (e.r.s:Int),.int .i64 e.r.kd,.int .i64 e.r.kk,.int .i64 e.r.dir,.int .i64 e.r.ps,.int .u32 (e.r.ld:Int),.int .u32 (e.r.inp:Int),.int .u32 (e.r.out:Int),.slice A n m]
def aZa (e:Eg)(ap rp:Nat)(A:OA)(n m:Nat):AO:=.obj (.cells (jZy e ap rp A n m) 105)
def aZu (dp:Nat)(mp:Option Nat):AO:=.obj (.cells #[.pointer (some ⟨dp,0,none⟩),.pointer (mp.map fun q=>⟨q,0,none⟩)] 85)
structure fZP (e:Eg)(d:D):Prop where
 most:e.most≤32
 p:bZ8 (e.per:Int)=true
 size:e.size=d.size
 sec:e.sec=d.sec
 fit:Lay.bZs e.most e.per≤d.sec
 least:aZR e.most e.per≤e.arena
 arena:e.arena≤16777216
 peak:e.peak≤e.arena
 rk:e.r=bZh∨e.r.good
 rw:e.r.wf
 kk:e.r.kk≤e.most
theorem fZP.per {e:Eg}{d:D}(h:fZP e d):e.per=D.per d:=by unfold Eg.per D.per;rw[h.size]
theorem fZP.lay {e:Eg}{d:D}(h:fZP e d):hZ3 d e.most:=⟨h.most,by rw[← h.per];exact h.p,by rw[← h.per];exact h.fit⟩
theorem fZP.kk0 {e:Eg}{d:D}(h:fZP e d):0≤e.r.kk∧e.r.kk.toNat≤e.most:=by
 have:=h.kk;rcases h.rk with e1|e1
 ·rw[e1]at *;exact⟨by decide,Nat.zero_le _⟩
 ·have:=e1.2.2.1;omega
theorem fZP.dir {e:Eg}{d:D}(h:fZP e d):e.r.dir=if fZE e.r=true then 1 else 0:=by
 unfold fZE;rcases h.rk with e1|e1
 ·rw[e1];rfl
 ·rcases e1.2.2.2.2.1 with e2|e2<;>rw[e2]<;>rfl
theorem fZP.to {e:Eg}{d d':D}(h:fZP e d)(h1:d'.sec=d.sec)(h2:d'.size=d.size):fZP e d':=⟨h.most,h.p,h.size.trans h2.symm,h.sec.trans h1.symm,by rw[h1];exact h.fit,h.least,h.arena,h.peak,h.rk,h.rw,h.kk⟩
theorem hZq {k m per:Nat}(h:k≤m):aZR k per≤aZR m per:=by
 have:2^((k+1)/2)≤2^((m+1)/2):=Nat.pow_le_pow_right (by omega) (Nat.div_le_div_right (by omega));unfold aZR;omega
def gZV (mp dp ap rp:Nat)(e:Eg)(A:OA)(n m:Nat):List As:=[pts mp (aZa e ap rp A n m),Ar ap e.arena e.peak [],pts rp (ZV dp 1 8 ((8*e.per:Nat):Int)),Own 126 8 A (psE e).length m (bZq (psE e))]
def Me (mp dp:Nat)(e:Eg):As:=fun H=>∃ ap rp A m,Sep (gZV mp dp ap rp e A (psE e).length m) H
theorem Me.open {mp dp:Nat}{e:Eg}{L:List As}{H:Hp}(h:Sep (Me mp dp e::L) H):∃ ap rp A m,Sep (gZV mp dp ap rp e A (psE e).length m++L) H:=by
 obtain⟨H1,H2,h1,h2,h3,⟨ap,rp,A,m,h4⟩,h5⟩:=h;exact⟨ap,rp,A,m,Sep.join h1 h2 h3 h4 h5⟩
theorem Me.shut {mp dp:Nat}{e:Eg}{ap rp:Nat}{A:OA}{m:Nat}{L:List As}{H:Hp}(h:Sep (gZV mp dp ap rp e A (psE e).length m++L) H):Sep (Me mp dp e::L) H:=
 Dsk.Sep.fold h fun H1 h1=>⟨ap,rp,A,m,h1⟩
theorem sZg {mp ap rp:Nat}{e:Eg}{A:OA}{n m:Nat}(hm:e.most≤32)(hp:bZ8 (e.per:Int)=true)(hl:aZR e.most e.per≤e.arena∧e.arena≤16777216)(hk:3≤e.r.kd→0≤e.r.kk∧e.r.kk≤e.most∧e.r.dir=if fZE e.r=true then 1 else 0):
  Tr prog 66 #[.pointer (some ⟨mp,0,none⟩)] [pts mp (aZa e ap rp A n m)] fun v M=>∃ A' m',v= .tuple #[]∧M=[pts mp (aZa e ap rp A' (psE e).length m'),Own 126 8 A' (psE e).length m' (bZq (psE e))]:=fun H hs=>by
 apply dZw.ok;unfold dZw
 try simp only[HS]
 refine hs.st 0 rfl (by show 31<32;omega) rfl fun H hs=>?_;have hs:Sep [pts mp (aZa e ap rp .none 0 0)] H:=hs;refine hs.ld 0 (v:=.int .i64 e.r.kd) rfl rfl ?_;simp only[HV];by_cases h3:e.r.kd≥3
 ·refine Zn h3 ?_;obtain⟨k1,k2,k3⟩:=hk h3;refine hs.ld 0 (v:=.int .i64 e.r.kk) rfl rfl ?_;simp only[HV];refine hs.ld 0 (v:=.int .i64 e.r.dir) rfl rfl ?_;simp only[HV];refine hs.ld 0 (v:=.int .i64 (e.per:Int)) rfl rfl ?_;simp only[HV];refine hs.ld 0 (v:=.int .i64 (e.arena:Int)) rfl rfl ?_;simp only[HV];have ek:e.r.kk=(e.r.kk.toNat:Int):=by omega
  have hml:=hZq (per:=e.per) (show e.r.kk.toNat≤e.most by omega);rw[k3,ek];refine(mZB (k:=e.r.kk.toNat) (per:=e.per) (words:=e.arena) (by omega) hp ⟨by omega,hl.2⟩ (fZE e.r)).use hs [] rfl rfl ?_;rintro _ _ H ⟨b,rfl,rfl⟩ hs;simp only[HV];have eps:psE e=aZb (fZE e.r) e.r.kk.toNat e.per e.arena:=by unfold psE;rw[if_pos h3]
  rw[← eps]at hs⊢;refine hs.st 1 rfl (by show 31<32;omega) rfl fun H hs=>?_;have hs:Sep [pts b (.row (bZq (psE e)) 126 ((psE e).length*8)),pts mp (aZa e ap rp (some ⟨b,0,none⟩) (psE e).length (psE e).length)] H:=hs;have hs:=lZI hs 0 (n:=(psE e).length) (s:=8) rfl (jZE _) rfl;exact⟨_,⟨_,_,by first|rfl|trivial,rfl⟩,hs.re [1,0] rfl⟩
 ·refine Zh h3 ?_;have eps:psE e=[]:=by unfold psE;rw[if_neg h3]
  rw[eps];have hs:Sep (Own 126 8 .none 0 0 []::[pts mp (aZa e ap rp .none 0 0)]) H:=⟨fun _=>none,H,fun _ _ h=>(nomatch h),Hp.le_refl _,fun _=>.inl rfl,Own.none _ _ _,hs⟩;exact⟨_,⟨.none,0,by first|rfl|trivial,rfl⟩,hs.re [1,0] rfl⟩
def En (p dp:Nat):Option Eg→As
 |none=>pts p (aZu dp none)
 |some e=>fun H=>∃ mp,Sep [pts p (aZu dp (some mp)),Me mp dp e] H
theorem En.open {p dp:Nat}{e:Eg}{L:List As}{H:Hp}(h:Sep (En p dp (some e)::L) H):∃ mp,Sep (pts p (aZu dp (some mp))::Me mp dp e::L) H:=by
 obtain⟨H1,H2,h1,h2,h3,⟨mp,h4⟩,h5⟩:=h;exact⟨mp,Sep.join h1 h2 h3 h4 h5⟩
theorem En.shut {p dp mp:Nat}{e:Eg}{L:List As}{H:Hp}(h:Sep (pts p (aZu dp (some mp))::Me mp dp e::L) H):Sep (En p dp (some e)::L) H:=
 Dsk.Sep.fold (M:=[pts p (aZu dp (some mp)),Me mp dp e]) h fun H1 h1=>⟨mp,h1⟩
theorem En.whole {p dp:Nat}{e:Eg}{L:List As}{H:Hp}(h:Sep (En p dp (some e)::L) H):∃ mp ap rp A m,Sep (pts p (aZu dp (some mp))::(gZV mp dp ap rp e A (psE e).length m++L)) H:=by
 obtain⟨mp,h⟩:=En.open h;have h2:Sep (Me mp dp e::pts p (aZu dp (some mp))::L) H:=h.swap;obtain⟨ap,rp,A,m,h3⟩:=Me.open h2;exact⟨mp,ap,rp,A,m,Sep.perm (List.perm_middle (l₁:=gZV mp dp ap rp e A (psE e).length m)) h3⟩
theorem En.unwhole {p dp mp ap rp m:Nat}{A:OA}{e:Eg}{L:List As}{H:Hp}(h:Sep (pts p (aZu dp (some mp))::(gZV mp dp ap rp e A (psE e).length m++L)) H):Sep (En p dp (some e)::L) H:=by
 have h2:Sep (gZV mp dp ap rp e A (psE e).length m++(pts p (aZu dp (some mp))::L)) H:=Sep.perm (List.perm_middle (l₁:=gZV mp dp ap rp e A (psE e).length m)).symm h;exact En.shut (Me.shut h2).swap
def stE (e:Eg):Int:=if e.r.kd=2 then 2 else if e.r.kd<3 then 1 else if e.r.ps<((psE e).length:Int)then 3 else 4
def stG :Option Eg→Int
 |none=>0
 |some e=>stE e
theorem eZg {p dp mp:Nat}(x:Int):Tr prog 59 #[.pointer (some ⟨p,0,none⟩),.int .i64 x] [pts p (aZu dp (some mp))] fun v M=>v= .int .i64 x∧M=[pts p (aZu dp (if x=8 then none else some mp))]:=fun H hs=>by
 apply bZk.ok;unfold bZk;by_cases h:x=8
 ·refine ZS h ?_
  try simp only[HS]
  refine hs.st 0 rfl (by show 1<2;omega) rfl fun H hs=>?_;exact⟨_,⟨by first|rfl|trivial,rfl⟩,by rw[if_pos h];exact hs⟩
 ·exact aZg h ⟨_,⟨by first|rfl|trivial,rfl⟩,by rw[if_neg h];exact hs⟩
theorem hZX {p dp:Nat}(g:Option Eg):Tr prog 58 #[.pointer (some ⟨p,0,none⟩)] [En p dp g] fun v M=>v= .int .i64 (stG g)∧M=[En p dp g]:=fun H hs=>by
 apply cZK.ok;unfold cZK;cases g with
 |none=>
  have hs:Sep [pts p (aZu dp none)] H:=hs
  try simp only[HS]
  refine hs.ld 0 (v:=.pointer none) rfl rfl ?_;simp only[HV];exact aZx rfl ⟨_,⟨by first|rfl|trivial,rfl⟩,hs⟩
 |some e=>
  obtain⟨mp,ap,rp,A,m,hs⟩:=En.whole hs;have fin:∀ x:Int,x=stE e→∃ M,(Value.int .i64 x= .int .i64 (stG (some e))∧M=[En p dp (some e)])∧Sep M H:=fun x hx=>⟨_,⟨by rw[hx];rfl,rfl⟩,En.unwhole hs⟩
  try simp only[HS]
  refine hs.ld 0 (v:=.pointer (some ⟨mp,0,none⟩)) rfl rfl ?_;simp only[HV];refine aZc rfl ?_
  try simp only[HS]
  refine hs.ld 0 (v:=.pointer (some ⟨mp,0,none⟩)) rfl rfl ?_;simp only[HV]
  try simp only[HS]
  refine hs.ld 1 (v:=.int .i64 e.r.kd) rfl rfl ?_;simp only[HV];by_cases h2:e.r.kd=2
  ·exact ZS h2 (fin 2 (by unfold stE;rw[if_pos h2]))
  refine aZg h2 ?_;refine hs.ld 0 (v:=.pointer (some ⟨mp,0,none⟩)) rfl rfl ?_;simp only[HV]
  try simp only[HS]
  refine hs.ld 1 (v:=.int .i64 e.r.kd) rfl rfl ?_;simp only[HV];by_cases h3:e.r.kd<3
  ·exact Zn h3 (fin 1 (by unfold stE;rw[if_neg h2,if_pos h3]))
  refine Zh h3 ?_;refine hs.ld 0 (v:=.pointer (some ⟨mp,0,none⟩)) rfl rfl ?_;simp only[HV]
  try simp only[HS]
  refine hs.ld 1 (v:=.int .i64 e.r.ps) rfl rfl ?_;simp only[HV];refine hs.ld 0 (v:=.pointer (some ⟨mp,0,none⟩)) rfl rfl ?_;simp only[HV]
  try simp only[HS]
  refine hs.ld 1 (v:=.slice A (psE e).length m) rfl rfl ?_;simp only[HV];by_cases h4:e.r.ps<((psE e).length:Int)
  ·exact Zn h4 (fin 3 (by unfold stE;rw[if_neg h2,if_neg h3,if_pos h4]))
  ·exact Zh h4 (fin 4 (by unfold stE;rw[if_neg h2,if_neg h3,if_neg h4]))
def xZH (mp dp:Nat)(e:Eg)(d:D)(c:Cn)(r:R)(v:Value)(M:List As):Prop:=
 (∃ d',v= .int .i64 0∧bZA d d' 8 1 1∧Clean d' (bZx c (aZS 1 8 r.s) (r.form d.size))∧M=[Me mp dp { e with r:=r},Dk dp d'])∨
 (∃ d',v= .int .i64 8∧Cut d d' 10∧Left d' (fun c'=>c'=c∨c'=bZx c (aZS 1 8 r.s) (r.form d.size))∧M=[Me mp dp e,Dk dp d'])
theorem hZ6 {mp dp:Nat}{e:Eg}{d:D}{c:Cn}(hc:Clean d c)(he:fZP e d)(ho:d.rd≤900000∧d.wr≤900000∧d.sy≤900000){r:R}(r0:R)(hr0:{ r0 with s:=r.s}=r)(hrs:r.s=e.r.s+1)(hg:r.good)(hu:r.u32)(hm:cZG (lastC c 1 8) r=true)(hk:r.kk≤e.most):
  Tr prog 54 #[.pointer (some ⟨mp,0,none⟩),.agg r0.c] [Me mp dp e,Dk dp d] (xZH mp dp e d c r):=fun H hs=>by
 have hok:=hc.ok;have hp:=Ok.per_le hok;have hfit:=he.fit;have hsz:=hok.size;obtain⟨ap,rp,A,m,hs⟩:=Me.open hs;apply cZL.ok;unfold cZL;refine hs.nw fun b H hs=>?_
 have hs:Sep [pts mp (aZa e ap rp A (psE e).length m),Ar ap e.arena e.peak [],pts rp (ZV dp 1 8 ((8*e.per:Nat):Int)),Own 126 8 A (psE e).length m (bZq (psE e)),Dk dp d,pts b (bZD r0)] H:=hs
 try simp only[HS]
 refine hs.ld 0 (v:=.int .u64 (e.r.s:Int)) rfl rfl ?_;simp only[HV];have hrlt:=hg.2.1;rw[eZp (x:=(e.r.s:Int)+1) (by omega) (by omega),show(e.r.s:Int)+1=((r.s:Nat):Int) by omega];refine hs.st 5 rfl (by show 0<8;omega) rfl fun H hs=>?_;have hs:Sep [pts mp (aZa e ap rp A (psE e).length m),Ar ap e.arena e.peak [],pts rp (ZV dp 1 8 ((8*e.per:Nat):Int)),Own 126 8 A (psE e).length m (bZq (psE e)),Dk dp d,pts b (bZD r)] H:=by rw[← hr0];exact hs
 refine hs.ld 0 (v:=.pointer (some ⟨rp,0,none⟩)) rfl rfl ?_;simp only[HV];refine hs.ldw 5 rfl rfl ?_
 try simp only[Array.toArray_toList]
 have hneed:9≤d.sec:=by unfold Lay.bZs at hfit;omega
 have hcs:=rZK hc (f:=1) (n:=8) (by omega) (by omega) r;have hlen:(aZT 1 8 d).1=0→(aZT 1 8 d).2.2.length≤12:=fun _=>by
  have:=jZK 1 8 8 0 d [];have h9:(aZT 1 8 d).2.2.length≤0+8:=this;omega
 have hsecB:secB (d.size:Int)=true:=(kZ1 _).2 (by
  have h1:=pZ1 he.p;have h2:=eZ2 he.p;have h3:e.per*8=d.size:=by have:=he.per;omega
  rw[h3]at h1;omega)
 refine(rZq (b:=rp) (p:=dp) (f:=1) (n:=8) (w:=((8*e.per:Nat):Int)) (d:=d) (by omega) (by omega) hok ⟨by omega,by omega⟩ (by omega) hlen hsecB r hu).use hs [4,2] rfl rfl ?_;rintro _ _ H ⟨rfl,rfl⟩ hs;have hs:Sep [Dk dp (eZ9 1 8 d r).2,pts rp (ZV dp 1 8 ((8*e.per:Nat):Int)),pts mp (aZa e ap rp A (psE e).length m),Ar ap e.arena e.peak [],Own 126 8 A (psE e).length m (bZq (psE e)),pts b (bZD r)] H:=hs;have back:∀ d',Sep [Dk dp d',pts rp (ZV dp 1 8 ((8*e.per:Nat):Int)),pts mp (aZa e ap rp A (psE e).length m),Ar ap e.arena e.peak [],Own 126 8 A (psE e).length m (bZq (psE e)),pts b (bZD r)] H→Sep [Me mp dp e,Dk dp d'] H:=fun d' hs=>Me.shut (L:=[Dk dp d']) (hs.re [2,3,1,4,0] rfl)
 rcases hcs with⟨h,_⟩|⟨_,d',e1,hcut,hleft⟩|⟨_,h,_⟩|⟨_,_,d',e1,hcut,hleft⟩|⟨_,_,d',e1,hw,hcl⟩
 ·exact absurd hg h
 ·rw[e1]at hs⊢;simp only[HV];refine aZg (by decide) ⟨_,.inr ⟨d',rfl,hcut.more (by omega),hleft.mono fun c' h=>.inl h,rfl⟩,back d' hs⟩
 ·rw[hm]at h;cases h
 ·rw[e1]at hs⊢;simp only[HV];refine aZg (by decide) ⟨_,.inr ⟨d',rfl,hcut.more (by omega),hleft,rfl⟩,back d' hs⟩
 ·rw[e1]at hs⊢;simp only[HV];refine ZS rfl ?_;refine hs.ldw 5 rfl rfl ?_
  try simp only[Array.toArray_toList]
  try simp only[HS]
  refine hs.sta 2 (off:=23) (n:=8) (y:=r.c) rfl (by show 23+8≤32;omega) rfl (eZ4 _) fun H hs=>?_;have hs:Sep [Dk dp d',pts rp (ZV dp 1 8 ((8*e.per:Nat):Int)),pts mp (aZa { e with r:=r} ap rp A (psE e).length m),Ar ap e.arena e.peak [],Own 126 8 A (psE e).length m (bZq (psE e)),pts b (bZD r)] H:=hs;refine(sZg (mp:=mp) (ap:=ap) (rp:=rp) (e:={ e with r:=r}) (A:=A) (n:=(psE e).length) (m:=m) he.most he.p ⟨he.least,he.arena⟩ (fun _=>⟨hg.2.2.1,hk,?_⟩)).use hs [2] rfl rfl ?_
  ·show r.dir=if fZE r=true then 1 else 0
   unfold fZE;rcases hg.2.2.2.2.1 with e2|e2<;>rw[e2]<;>rfl
  rintro _ _ H ⟨A',m',rfl,rfl⟩ hs
  try simp only[HV]
  exact⟨_,.inl ⟨d',rfl,hw,hcl,rfl⟩,Me.shut (e:={ e with r:=r}) (L:=[Dk dp d']) (hs.re [0,4,3,1,2] rfl)⟩
def lZY :Option Eg→List Int
 |none=>[0,0,0,0,0,0]
 |some e=>if stE e=1 then [1,e.r.ld,0,0,0,0]else if stE e=2 then [2,e.r.ld,e.r.kk,0,0,0]else [stE e,e.r.ld,e.r.kk,e.r.dir,e.r.ps,(psE e).length]
theorem jZQ (e:Eg):stE e=1∨stE e=2∨stE e=3∨stE e=4:=by
 unfold stE
 repeat' split
 all_goals simp
def gZ0 (l:List Int):AO:=.obj (.cells (l.map (Value.int .i64)).toArray 29)
theorem hZ4 {p dp:Nat}(g:Option Eg)(hld:∀ e,g=some e→e.r.ld<4294967296):Tr prog 21 #[.pointer (some ⟨p,0,none⟩)] [En p dp g] fun v M=>v= .agg ((lZY g).map (Value.int .i64)).toArray∧M=[En p dp g]:=fun H hs=>by
 apply Zj.ok;unfold Zj;refine hs.nw fun b1 H hs=>?_
 refine(hZX (p:=p) (dp:=dp) g).use hs [0] rfl rfl ?_;rintro _ _ H ⟨rfl,rfl⟩ hs;simp only[HV];refine hs.nw fun b2 H hs=>?_
 refine hs.stw 2 rfl rfl rfl rfl fun H hs=>?_;refine hs.ldf 2 (v:=.int .i64 (stG g)) rfl rfl ?_;simp only[HV];cases g with
 |none=>
  refine Zh (by decide) ?_;unfold Zj.j4;refine hs.ldf 2 (v:=.int .i64 0) rfl rfl ?_;simp only[HV];refine Zh (by decide) ?_;unfold Zj.j6 Zj.j6.q4 Zj.j6.q3 Zj.j6.q2 Zj.j6.q1;refine hs.ldf 2 (v:=.int .i64 0) rfl rfl ?_;simp only[HV];refine Zh (by decide) ?_;refine hs.ldw 2 rfl rfl ?_;refine hs.stw 1 rfl rfl rfl rfl fun H hs=>?_;refine hs.ldw 1 rfl rfl ?_;exact⟨_,⟨by first|rfl|trivial,rfl⟩,hs.re [0] rfl⟩
 |some e=>
  have hl:=hld e rfl;have hst:=jZQ e;have hs:Sep [En p dp (some e),pts b1 (gZ0 [0,0,0,0,0,0]),pts b2 (gZ0 [stE e,0,0,0,0,0])] H:=hs;obtain⟨mp,ap,rp,A,m,hs⟩:=En.whole hs;have hs:Sep [pts p (aZu dp (some mp)),pts mp (aZa e ap rp A (psE e).length m),Ar ap e.arena e.peak [],pts rp (ZV dp 1 8 ((8*e.per:Nat):Int)),Own 126 8 A (psE e).length m (bZq (psE e)),pts b1 (gZ0 [0,0,0,0,0,0]),pts b2 (gZ0 [stE e,0,0,0,0,0])] H:=hs;have fin:∀(l:List Int) (H:Hp),l=lZY (some e)→l.length=6→Sep [pts p (aZu dp (some mp)),pts mp (aZa e ap rp A (psE e).length m),Ar ap e.arena e.peak [],pts rp (ZV dp 1 8 ((8*e.per:Nat):Int)),Own 126 8 A (psE e).length m (bZq (psE e)),pts b1 (gZ0 [0,0,0,0,0,0]),pts b2 (gZ0 l)] H→
    LdA H (⟨b2,0,none⟩:Addr) 6 fun l1=>StA H (⟨b1,0,none⟩:Addr) l1.toArray 6 fun H88=>LdA H88 (⟨b1,0,none⟩:Addr) 6 fun l33=>∃ M,((Value.agg l33.toArray)= .agg ((lZY (some e)).map (Value.int .i64)).toArray∧M=[En p dp (some e)])∧Sep M H88:=fun l H hl h6 hs=>by
   refine hs.ldw 6 rfl (by simp[h6]) ?_;refine hs.stw 5 (y:=((l.map (Value.int .i64)).toArray)) rfl rfl (by simp[h6]) (List.all_eq_true.2 fun v hv=>by obtain⟨x,_,rfl⟩:=List.mem_map.1 (show v∈l.map (Value.int .i64)from hv);rfl) fun H hs=>?_;refine hs.ldw 5 rfl (by simp[h6]) ?_;exact⟨_,⟨by rw[← hl],rfl⟩,En.unwhole (L:=[]) (hs.re [0,1,2,3,4] rfl)⟩
  refine Zn (show stG (some e)≥1 by show stE e≥1;omega) ?_
  try simp only[HS]
  refine hs.ld 0 (v:=.pointer (some ⟨mp,0,none⟩)) rfl rfl ?_;simp only[HV]
  try simp only[HS]
  refine hs.ld 1 (v:=.int .u32 (e.r.ld:Int)) rfl rfl ?_;simp only[HV];rw[aZJ (n:=e.r.ld) (by omega)];refine hs.st 6 rfl (by show 1<6;omega) rfl fun H hs=>?_;unfold Zj.j4;have hs:Sep [pts p (aZu dp (some mp)),pts mp (aZa e ap rp A (psE e).length m),Ar ap e.arena e.peak [],pts rp (ZV dp 1 8 ((8*e.per:Nat):Int)),Own 126 8 A (psE e).length m (bZq (psE e)),pts b1 (gZ0 [0,0,0,0,0,0]),pts b2 (gZ0 [stE e,e.r.ld,0,0,0,0])] H:=hs
  try simp only[HS]
  refine hs.ld 6 (v:=.int .i64 (stE e)) rfl rfl ?_;simp only[HV];by_cases h2:stE e≥2
  ·refine Zn h2 ?_;refine hs.ld 0 (v:=.pointer (some ⟨mp,0,none⟩)) rfl rfl ?_;simp only[HV]
   try simp only[HS]
   refine hs.ld 1 (v:=.int .i64 e.r.kk) rfl rfl ?_;simp only[HV];refine hs.st 6 rfl (by show 2<6;omega) rfl fun H hs=>?_;have hs:Sep [pts p (aZu dp (some mp)),pts mp (aZa e ap rp A (psE e).length m),Ar ap e.arena e.peak [],pts rp (ZV dp 1 8 ((8*e.per:Nat):Int)),Own 126 8 A (psE e).length m (bZq (psE e)),pts b1 (gZ0 [0,0,0,0,0,0]),pts b2 (gZ0 [stE e,e.r.ld,e.r.kk,0,0,0])] H:=hs;unfold Zj.j6 Zj.j6.q4 Zj.j6.q3 Zj.j6.q2 Zj.j6.q1
   try simp only[HS]
   refine hs.ld 6 (v:=.int .i64 (stE e)) rfl rfl ?_;simp only[HV];by_cases h3:stE e≥3
   ·refine Zn h3 ?_;have hfin:=fin [stE e,e.r.ld,e.r.kk,e.r.dir,e.r.ps,(psE e).length];have hval:[stE e,(e.r.ld:Int),e.r.kk,e.r.dir,e.r.ps,((psE e).length:Int)]=lZY (some e):=by
     show _=if stE e=1 then _ else if stE e=2 then _ else _
     rw[if_neg (by omega),if_neg (by omega)]
    repeat' first
     |exact hfin _ hval rfl hs
     |refine hs.ld 0 (v:=.pointer (some ⟨mp,0,none⟩)) rfl rfl ?_
     |refine hs.ld 1 (v:=.int .i64 e.r.dir) rfl rfl ?_
     |refine hs.ld 1 (v:=.int .i64 e.r.ps) rfl rfl ?_
     |refine hs.ld 1 (v:=.slice A (psE e).length m) rfl rfl ?_
     |refine hs.st 6 rfl (Nat.lt_of_sub_eq_succ rfl) rfl fun H hs=>?_
     |(simp only[HV];try simp only[HS])
     |refine⟨?_,?_⟩
   ·refine Zh h3 ?_;refine fin _ H ?_ rfl hs;show _=if stE e=1 then _ else if stE e=2 then _ else _
    rw[if_neg (by omega),if_pos (by omega)];have:stE e=2:=by omega
    rw[this]
  ·refine Zh h2 ?_;unfold Zj.j6 Zj.j6.q4 Zj.j6.q3 Zj.j6.q2 Zj.j6.q1
   try simp only[HS]
   refine hs.ld 6 (v:=.int .i64 (stE e)) rfl rfl ?_;simp only[HV];refine Zh (by omega) ?_;refine fin _ H ?_ rfl hs;show _=if stE e=1 then _ else _
   have:stE e=1:=by omega
   rw[if_pos this,this]
def egM (d:D)(m:Mn)(peak:Int):Eg:=⟨m.most,d.sec,d.size,m.arena,m.r,peak⟩
theorem fZe {d d':D}(m:Mn)(peak:Int)(h1:d'.sec=d.sec)(h2:d'.size=d.size):egM d' m peak=egM d m peak:=by unfold egM;rw[h1,h2]
theorem Mn.r_wf {sec size:Nat}{m:Mn}{c:Cn}(h:Holds sec size m c):(m.r=bZh∨m.r.good)∧m.r.wf∧m.r.kk≤m.most:=by
 rcases m.r_or with⟨_,e⟩|e
 ·rw[e];exact⟨.inl rfl,zeroR_wf',by show(0:Int)≤m.most;omega⟩
 ·have h1:=h.log.last e;have g:=h1.1;refine⟨.inr g,⟨by have:=g.2.1;omega,?_,?_,?_,?_,h1.2.1⟩,h.kk _ e⟩
  ·obtain⟨_,_,_,_,_,h|h|h|h⟩:=g<;>omega
  ·have:=g.2.2;omega
  ·have:=g.2.2.2.2.1;omega
  ·obtain⟨_,_,_,_,_,h|h|h|h⟩:=g<;>omega
where zeroR_wf':bZh.wf:=⟨by decide,by decide,by decide,by decide,by decide,⟨by decide,by decide,by decide⟩⟩
theorem Holds.eg {d:D}{m:Mn}{c:Cn}(h:Holds d.sec d.size m c){peak:Int}(hp:peak≤m.arena):fZP (egM d m peak) d:=by
 have hg:=cZ7 h.good;have hr:=Mn.r_wf h;exact⟨hg.1,iZd hg.2.1,rfl,rfl,hg.2.2.1,h.least,by have:=hg.2.2.2;show m.arena≤_;omega,hp,hr.1,hr.2.1,hr.2.2⟩
theorem Holds.secB {sec size:Nat}{m:Mn}{c:Cn}(h:Holds sec size m c):secB (size:Int)=true:=(kZ1 _).2 (cZ7 h.good).2.1
theorem Holds.lastC {sec size:Nat}{m:Mn}{c:Cn}(h:Holds sec size m c):lastC c 1 8=m.L.getLast? :=Ring.last h.secB _ rfl h.log h.ring
theorem oZM {d:D}{m:Mn}{peak:Int}(hk:3≤m.r.kd):psE (egM d m peak)=aZ4 m (d.size/8) m.r:=by unfold psE egM;rw[if_pos hk];rfl
def stM (m:Mn)(per:Nat):Int:=if m.r.kd=2 then 2 else if m.r.kd<3 then 1 else if m.r.ps<((aZ4 m per m.r).length:Int)then 3 else 4
theorem iZi {d:D}{m:Mn}{peak:Int}:stE (egM d m peak)=stM m (d.size/8):=by
 unfold stE stM;show(if m.r.kd=2 then(2:Int)else if m.r.kd<3 then 1 else if m.r.ps<((psE (egM d m peak)).length:Int)then 3 else 4)=_
 by_cases h2:m.r.kd=2
 ·rw[if_pos h2,if_pos h2]
 rw[if_neg h2,if_neg h2];by_cases h3:m.r.kd<3
 ·rw[if_pos h3,if_pos h3]
 rw[if_neg h3,if_neg h3,oZM (by omega)]
def iZQ (m:Mn)(per r w:Nat):Prop:=∃ pz r0 w0,(aZ4 m per m.r)[m.r.ps.toNat]? =some pz∧eZA per m.arena (exX m.most per pz.f m.r.kk.toNat).f (exX m.most per pz.o m.r.kk.toNat).f pz r0 w0∧r=nS per (2^m.r.kk.toNat)+r0+8∧w=w0+1
theorem iZQ.le {m:Mn}{per r w:Nat}(hp:1≤per)(hk:m.r.kk.toNat≤32)(hl:aZR m.r.kk.toNat per≤m.arena)(h:iZQ m per r w):r≤3*2^m.r.kk.toNat+8∧w≤2^m.r.kk.toNat+1:=by
 obtain⟨pz,r0,w0,hpz,hc,rfl,rfl⟩:=h;have hz:=iZ5 hk hl pz (List.mem_of_getElem? hpz);have h1:=hZG hc hz.k;have h2:=lZH (per:=per) (w:=2^m.r.kk.toNat) hp (Nat.two_pow_pos _);exact⟨by omega,by omega⟩
section
variable {p dp : Nat} {d : D} {c : Cn} {m : Mn} {peak : Int} {TT : As} (hc : Clean d c) (hh : Holds d.sec d.size m c) (hS : Small 100000 m) (ho : d.rd ≤ 800000 ∧ d.wr ≤ 800000 ∧ d.sy ≤ 800000) (hpk : peak ≤ m.arena)
include hc hh hS ho hpk
def uZ4 (p dp:Nat)(d:D)(m:Mn)(peak dir:Int)(v:Value)(M:List As):Prop:=
 (stM m (d.size/8)≠2∧stM m (d.size/8)≠4∧v= .int .i64 5∧M=[En p dp (some (egM d m peak)),Dk dp d])∨
 ((stM m (d.size/8)=2∨stM m (d.size/8)=4)∧¬(dir=0∨dir=1)∧v= .int .i64 18∧M=[En p dp (some (egM d m peak)),Dk dp d])∨
 ((stM m (d.size/8)=2∨stM m (d.size/8)=4)∧∃ b:Bool,dir=(if b=true then 1 else 0)∧
  ((∃ d' c',bZA d d' 8 1 1∧Clean d' c'∧Holds d.sec d.size (m.add (cZQ m b)) c'∧v= .int .i64 0∧M=[En p dp (some (egM d (m.add (cZQ m b)) peak)),Dk dp d'])∨
  (∃ d',Cut d d' 10∧Left d' (fun c'=>Holds d.sec d.size m c'∨Holds d.sec d.size (m.add (cZQ m b)) c')∧v= .int .i64 8∧M=[En p dp none,Dk dp d'])))
theorem mZE (dir:Int):Tr prog 20 #[.pointer (some ⟨p,0,none⟩),.int .i64 dir] [En p dp (some (egM d m peak)),Dk dp d] (uZ4 p dp d m peak dir):=fun H hs=>by
 have he:=hh.eg hpk;apply aZs.ok;unfold aZs;refine(hZX (p:=p) (dp:=dp) (some (egM d m peak))).use hs [0] rfl rfl ?_;rintro _ _ H ⟨rfl,rfl⟩ hs;have est:stG (some (egM d m peak))=stM m (d.size/8):=iZi;rw[est];simp only[HV];have j4:(stM m (d.size/8)=2∨stM m (d.size/8)=4)→aZs.j4 (fun v H'=>∃ M,uZ4 p dp d m peak dir v M∧Sep M H') (some ⟨p,0,none⟩) dir H:=fun hst=>by
  have hk2:2≤m.r.kd:=by
   unfold stM at hst;by_cases e2:m.r.kd=2
   ·omega
   ·rw[if_neg e2]at hst;by_cases e3:m.r.kd<3
    ·rw[if_pos e3]at hst;omega
    ·omega
  unfold aZs.j4;by_cases h0:dir<0
  ·exact Zn h0 ⟨_,.inr (.inl ⟨hst,by omega,rfl,rfl⟩),hs⟩
  refine Zh h0 ?_;by_cases h1:dir>1
  ·exact Zn h1 ⟨_,.inr (.inl ⟨hst,by omega,rfl,rfl⟩),hs⟩
  refine Zh h1 ?_;obtain⟨b,hb⟩:∃ b:Bool,dir=(if b=true then 1 else 0):=by
   rcases(by omega:dir=0∨dir=1)with e|e
   ·exact⟨false,e⟩
   ·exact⟨true,e⟩
  obtain⟨mp,ap,rp,A,mm,hs⟩:=En.whole hs
  try simp only[HS]
  refine hs.ld 0 (v:=.pointer (some ⟨mp,0,none⟩)) rfl rfl ?_;simp only[HV];refine hs.ld 0 (v:=.pointer (some ⟨mp,0,none⟩)) rfl rfl ?_;simp only[HV]
  try simp only[HS]
  refine hs.ld 1 (v:=.int .i64 m.r.kk) rfl rfl ?_;simp only[HV];refine hs.ld 0 (v:=.pointer (some ⟨mp,0,none⟩)) rfl rfl ?_;simp only[HV]
  try simp only[HS]
  refine hs.ld 1 (v:=.int .u32 (m.r.ld:Int)) rfl rfl ?_;simp only[HV];refine hs.ld 0 (v:=.pointer (some ⟨mp,0,none⟩)) rfl rfl ?_;simp only[HV]
  try simp only[HS]
  refine hs.ld 1 (v:=.int .u32 (m.r.inp:Int)) rfl rfl ?_;simp only[HV];have hs:=Me.shut (L:=[pts p (aZu dp (some mp)),Dk dp d]) (hs.re [1,2,3,4,0,5] rfl);obtain⟨g1,g2,g3,g4⟩:=vZ8 hh hS (by omega) hk2 b;have hkm:=(Mn.r_wf hh).2.2;rw[hb];refine(hZ6 (mp:=mp) (dp:=dp) (e:=egM d m peak) hc he (by omega) (r:=cZQ m b) { cZQ m b with s:=0} rfl (Mn.seq_r hh).symm g1 g2 (by rw[hh.lastC];exact g3) hkm).use hs [0,2] rfl rfl ?_;rintro _ _ H (⟨d',rfl,hw,hcl,rfl⟩|⟨d',rfl,hcut,hleft,rfl⟩) hs
  ·simp only[HV];refine(eZg (p:=p) (dp:=dp) (mp:=mp) 0).use hs [2] rfl rfl ?_;rintro _ _ H ⟨rfl,rfl⟩ hs;simp only[HV];have hs:=En.shut (e:={ egM d m peak with r:=cZQ m b}) (L:=[Dk dp d']) (hs.re [0,1,2] rfl);have e1:egM d (m.add (cZQ m b)) peak={ egM d m peak with r:=cZQ m b}:=by unfold egM;rw[Mn.add_r];rfl
   exact⟨_,.inr (.inr ⟨hst,b,rfl,.inl ⟨d',_,hw,hcl,g4,rfl,rfl⟩⟩),by rw[e1];exact hs⟩
  ·simp only[HV];refine(eZg (p:=p) (dp:=dp) (mp:=mp) 8).use hs [2] rfl rfl ?_;rintro _ _ H ⟨rfl,rfl⟩ hs;simp only[HV];refine⟨_,.inr (.inr ⟨hst,b,rfl,.inr ⟨d',hcut,hleft.mono fun c' h=>?_,rfl,rfl⟩⟩),hs.re [0,2] rfl⟩;rcases h with e|e
   ·left;rw[e];exact hh
   ·right;rw[e];exact g4
 by_cases h2:stM m (d.size/8)=2
 ·exact Zq h2 (j4 (.inl h2))
 ·refine ZA h2 ?_;by_cases h4:stM m (d.size/8)=4
  ·exact Zq h4 (j4 (.inr h4))
  ·exact ZA h4 ⟨_,.inl ⟨h2,h4,rfl,rfl⟩,hs⟩
end
theorem tZE {ps:List Pz}{i:Nat}{pz:Pz}(h:ps[i]? =some pz)(l:List UInt64):apL (ps.take (i+1)) l=pz.ap (apL (ps.take i) l):=by
 have hlt:=(List.getElem?_eq_some_iff.1 h).1;have hg:=(List.getElem?_eq_some_iff.1 h).2;rw[List.take_succ_eq_append_getElem hlt,vZk,hg];rfl
section
variable {p dp : Nat} {d : D} {c : Cn} {m : Mn} {peak : Int} {TT : As} (hT : ∀ H, TT H → T64 H) (hc : Clean d c) (hh : Holds d.sec d.size m c) (hS : Small 100000 m) (ho : d.rd ≤ 800000 ∧ d.wr ≤ 800000 ∧ d.sy ≤ 800000) (hpk : peak ≤ m.arena) (hk14 : m.r.kk ≤ 14)
include hT hc hh hS ho hpk hk14
def uZ3 (p dp:Nat)(d:D)(m:Mn)(peak:Int)(TT:As)(v:Value)(M:List As):Prop:=
 (stM m (d.size/8)≠3∧v= .tuple #[.bool false,.int .i64 5]∧M=[En p dp (some (egM d m peak)),Dk dp d,TT])∨
 (stM m (d.size/8)=3∧∃ r w,iZQ m (d.size/8) r w∧
  ((∃ d' c' peak',peak'≤(m.arena:Int)∧bZA d d' r w 2∧Clean d' c'∧Holds d.sec d.size (m.add (bZC m (d.size/8))) c'∧v= .tuple #[.bool (stM (m.add (bZC m (d.size/8))) (d.size/8)==4),.int .i64 0]∧
    M=[En p dp (some (egM d (m.add (bZC m (d.size/8))) peak')),Dk dp d',TT])∨
  (∃ d',Cut d d' (r+w+2)∧Left d' (fun c'=>Holds d.sec d.size m c'∨Holds d.sec d.size (m.add (bZC m (d.size/8))) c')∧v= .tuple #[.bool false,.int .i64 8]∧M=[En p dp none,Dk dp d',TT])))
set_option maxHeartbeats 1000000 in
theorem pZH :Tr prog 23 #[.pointer (some ⟨p,0,none⟩)] [En p dp (some (egM d m peak)),Dk dp d,TT] (uZ3 p dp d m peak TT):=fun H hs=>by
 have he:=hh.eg hpk;have hper:(egM d m peak).per=D.per d:=rfl;have hper8:d.size/8=D.per d:=rfl;have hl:=he.lay;apply aZz.ok;unfold aZz;refine(hZX (p:=p) (dp:=dp) (some (egM d m peak))).use hs [0] rfl rfl ?_;rintro _ _ H ⟨rfl,rfl⟩ hs;have est:stG (some (egM d m peak))=stM m (d.size/8):=iZi;rw[est];simp only[HV];by_cases h3:stM m (d.size/8)=3
 ·refine Zq h3 ?_;have hk3:3≤m.r.kd∧m.r.ps<((aZ4 m (d.size/8) m.r).length:Int):=by
   unfold stM at h3;by_cases e2:m.r.kd=2
   ·rw[if_pos e2]at h3;omega
   ·rw[if_neg e2]at h3;by_cases e3:m.r.kd<3
    ·rw[if_pos e3]at h3;omega
    ·rw[if_neg e3]at h3;by_cases e4:m.r.ps<((aZ4 m (d.size/8) m.r).length:Int)
     ·exact⟨by omega,e4⟩
     ·rw[if_neg e4]at h3;omega
  have eL:=Mn.r_kd (m:=m) (by omega);have hr:=hh.log.last eL;have hps:=R.ps_nn hr.1;have hkk0:=he.kk0;have hkk:0≤m.r.kk∧m.r.kk.toNat≤m.most:=hkk0;have hkm:=(Mn.r_wf hh).2.2;have hlt:m.r.ps.toNat<(aZ4 m (d.size/8) m.r).length:=by omega
  obtain⟨pz,hpz⟩:∃ pz,(aZ4 m (d.size/8) m.r)[m.r.ps.toNat]? =some pz:=⟨_,List.getElem?_eq_getElem hlt⟩;have hgd:=cZ7 hh.good;have hleast:aZR m.r.kk.toNat (d.size/8)≤m.arena:=Nat.le_trans (hZq hkk.2) hh.least;have hzok:jZj pz m.r.kk.toNat (d.size/8) m.arena:=iZ5 (by omega) hleast pz (List.mem_of_getElem? hpz);have hends:=lZM (fZE m.r) m.r.kk.toNat (d.size/8) m.arena _ pz hpz;obtain⟨s1,s2,s3⟩:=xZb hh hS (by omega) hk3.1 hpz;have hpow14:2^m.r.kk.toNat≤2^14:=Nat.pow_le_pow_right (by omega) (by omega);have hcap:m.arena≤16777216:=by have:=hgd.2.2.2;omega
  obtain⟨mp,ap,rp,A,mm,hs⟩:=En.whole hs
  try simp only[HS]
  refine hs.ld 0 (v:=.pointer (some ⟨mp,0,none⟩)) rfl rfl ?_;simp only[HV]
  try simp only[HS]
  refine hs.lda 1 (off:=23) (n:=8) rfl (by show 23+8≤32;omega) ?_;have ea:(((jZy (egM d m peak) ap rp A (psE (egM d m peak)).length mm).toList.drop 23).take 8).toArray=m.r.c:=rfl;rw[ea];refine hs.nw fun b1 H hs=>?_
  refine hs.stw 7 (y:=m.r.c) rfl rfl rfl (eZ4 _) fun H hs=>?_;have hs:Sep [pts p (aZu dp (some mp)),pts mp (aZa (egM d m peak) ap rp A (psE (egM d m peak)).length mm),Ar ap m.arena peak [],pts rp (ZV dp 1 8 ((8*(egM d m peak).per:Nat):Int)),Own 126 8 A (psE (egM d m peak)).length mm (bZq (psE (egM d m peak))),Dk dp d,TT,pts b1 (bZD m.r)] H:=hs;have j7:∀ want:Int,want=(eZJ (apL ((aZ4 m (d.size/8) m.r).take m.r.ps.toNat) m.inp):Int)→aZz.j7 (fun v H'=>∃ M,uZ3 p dp d m peak TT v M∧Sep M H') (some ⟨p,0,none⟩) ⟨b1,0,none⟩ want H:=fun want hwant=>by
   unfold aZz.j7
   try simp only[HS]
   refine hs.ld 0 (v:=.pointer (some ⟨dp,0,none⟩)) rfl rfl ?_;simp only[HV];refine hs.ld 0 (v:=.pointer (some ⟨mp,0,none⟩)) rfl rfl ?_;simp only[HV]
   try simp only[HS]
   refine hs.ld 1 (v:=.pointer (some ⟨ap,0,none⟩)) rfl rfl ?_;simp only[HV];refine hs.ld 0 (v:=.pointer (some ⟨mp,0,none⟩)) rfl rfl ?_;simp only[HV]
   try simp only[HS]
   refine hs.lda 1 (off:=4) (n:=17) rfl (by show 4+17≤32;omega) ?_;have eb:(((jZy (egM d m peak) ap rp A (psE (egM d m peak)).length mm).toList.drop 4).take 17).toArray=Lay.bZJ m.most (D.per d):=rfl;rw[eb];refine hs.ld 7 (v:=.int .i64 m.r.kk) rfl rfl ?_;simp only[HV];refine hs.ld 0 (v:=.pointer (some ⟨mp,0,none⟩)) rfl rfl ?_;simp only[HV]
   try simp only[HS]
   refine hs.ld 1 (v:=.slice A (psE (egM d m peak)).length mm) rfl rfl ?_;simp only[HV];refine hs.ld 7 (v:=.int .i64 m.r.ps) rfl rfl ?_;simp only[HV];have eps:psE (egM d m peak)=aZ4 m (d.size/8) m.r:=oZM hk3.1;refine(hs.own 4 rfl).rdA (x:=m.r.ps) (j:=m.r.ps.toNat) (by omega) (by rw[eps];exact hlt) (jZD _ _ pz (by rw[eps];exact hpz)) ?_;have ekk:m.r.kk=(m.r.kk.toNat:Int):=by omega
   have hw2:want=(eZJ (cws c (D.per d) (exX m.most (D.per d) pz.f m.r.kk.toNat).f (2^m.r.kk.toNat)):Int):=by rw[hwant];congr 2;exact s1.symm
   rw[hw2,ekk,Array.toArray_toList];refine(xZm (dp:=dp) (ap:=ap) (d:=d) (c:=c) (most:=m.most) (k:=m.r.kk.toNat) (pz:=pz) (cap:=m.arena) (peak:=peak) (TT:=TT) hT hc hl hkk.2 (by omega) hcap hpk hzok).use hs [5,2,6] rfl rfl ?_;rintro v M H ⟨peak',hpk',r0,w0,hcost,hq⟩ hs;have hsc:iZQ m (d.size/8) (nS (D.per d) (2^m.r.kk.toNat)+r0+8) (w0+1):=⟨pz,r0,w0,hpz,hcost,rfl,rfl⟩;have hpd:=Ok.per_le hc.ok;have hcle:=hsc.le (by omega) (by omega) hleast;have target:∀ c',Sam (inX (exX m.most (D.per d) pz.o m.r.kk.toNat)) c c'→Holds d.sec d.size m c':=fun c' hsam=>
    hh.target hkk.2 (fun r hr' _=>by have:=hends.1;omega) (fun r hr' h4 q hq'=>by
     rw[eL]at hr';cases hr';exact s3 q h4 hq') hsam
   rcases hq with⟨d1,c1,hw1,hc1,hsam,hwords,rfl,rfl⟩|⟨d1,hcut,hleft,rfl,rfl⟩
   ·simp only[HV];refine Zq rfl ?_;have hs:Sep [Dk dp d1,Ar ap m.arena peak' [],TT,pts p (aZu dp (some mp)),pts mp (aZa (egM d m peak) ap rp A (psE (egM d m peak)).length mm),pts rp (ZV dp 1 8 ((8*(egM d m peak).per:Nat):Int)),Own 126 8 A (psE (egM d m peak)).length mm (bZq (psE (egM d m peak))),pts b1 (bZD m.r)] H:=hs;refine hs.ld 7 (v:=.int .i64 m.r.ps) rfl rfl ?_;simp only[HV];have hl5:=(cZ6 (fZE m.r) m.r.kk.toNat (d.size/8) m.arena).2;have hl5:(aZ4 m (d.size/8) m.r).length≤5:=hl5;rw[ZG (x:=m.r.ps+1) (by omega) (by omega)];refine hs.st 7 rfl (by show 1<8;omega) rfl fun H hs=>?_;refine hs.st 7 rfl (by show 4<8;omega) rfl fun H hs=>?_;refine hs.st 7 rfl (by show 7<8;omega) rfl fun H hs=>?_;have hap:pz.ap (cws c (D.per d) (exX m.most (D.per d) pz.f m.r.kk.toNat).f (2^m.r.kk.toNat))=apL ((aZ4 m (d.size/8) m.r).take (m.r.ps.toNat+1)) m.inp:=by
     rw[tZE hpz];congr 1
    rw[hap]at hs hwords;have hh1:=target c1 hsam;have hc1':=hc1;have e12:Holds d1.sec d1.size m c1:=by rw[hw1.sec,hw1.size];exact hh1
    obtain⟨g1,g2,g3,g4⟩:=vZN hh1 hS (by omega) hk3.1 hpz hwords;have hs:Sep [Dk dp d1,Ar ap m.arena peak' [],TT,pts p (aZu dp (some mp)),pts mp (aZa (egM d1 m peak') ap rp A (psE (egM d1 m peak')).length mm),pts rp (ZV dp 1 8 ((8*(egM d1 m peak').per:Nat):Int)),Own 126 8 A (psE (egM d1 m peak')).length mm (bZq (psE (egM d1 m peak'))),pts b1 (bZD { bZC m (d.size/8)with s:=m.r.s})] H:=by
     rw[fZe m peak' hw1.sec hw1.size];exact hs
    refine hs.ld 3 (v:=.pointer (some ⟨mp,0,none⟩)) rfl rfl ?_;simp only[HV];refine hs.ldw 7 rfl rfl ?_
    try simp only[Array.toArray_toList]
    have hs:=Me.shut (mp:=mp) (dp:=dp) (e:=egM d1 m peak') (L:=[pts p (aZu dp (some mp)),Dk dp d1,TT]) (hs.re [4,1,5,6,3,0,2] rfl);have hrd1:=hw1.rd;have hwr1:=hw1.wr;have hsy1:=hw1.sy;refine(hZ6 (mp:=mp) (dp:=dp) (e:=egM d1 m peak') hc1 (e12.eg hpk') (by omega) (r:=bZC m (d.size/8)) { bZC m (d.size/8)with s:=m.r.s} rfl (Mn.seq_r hh).symm g1 g2 (by rw[e12.lastC];exact g3) hkm).use hs [0,2] rfl rfl ?_;have e1:∀ d2:D,{ egM d1 m peak' with r:=bZC m (d.size/8)}=egM d (m.add (bZC m (d.size/8))) peak':=fun _=>by unfold egM;rw[Mn.add_r,hw1.sec,hw1.size];rfl
    rintro _ _ H (⟨d2,rfl,hw2',hcl2,rfl⟩|⟨d2,rfl,hcut,hleft,rfl⟩) hs
    ·simp only[HV];refine(eZg (p:=p) (dp:=dp) (mp:=mp) 0).use hs [2] rfl rfl ?_;rintro _ _ H ⟨rfl,rfl⟩ hs;simp only[HV];refine Zq rfl ?_;have hs:=En.shut (e:={ egM d1 m peak' with r:=bZC m (d.size/8)}) (L:=[Dk dp d2,TT]) (hs.re [0,1,2,3] rfl);rw[e1 d2]at hs;refine(hZX (p:=p) (dp:=dp) (some (egM d (m.add (bZC m (d.size/8))) peak'))).use hs [0] rfl rfl ?_;rintro _ _ H ⟨rfl,rfl⟩ hs;have est:stG (some (egM d (m.add (bZC m (d.size/8))) peak'))=stM (m.add (bZC m (d.size/8))) (d.size/8):=iZi;rw[est];simp only[HV];have hgo:=hw1.trans hw2';rw[hw1.size]at hcl2;refine⟨_,.inr ⟨h3,_,_,hsc,.inl ⟨d2,_,peak',hpk',?_,hcl2,g4,rfl,rfl⟩⟩,hs⟩;exact hgo
    ·simp only[HV];refine(eZg (p:=p) (dp:=dp) (mp:=mp) 8).use hs [2] rfl rfl ?_;rintro _ _ H ⟨rfl,rfl⟩ hs;simp only[HV];refine ZA (by decide) ?_;have hgo:=hw1.cut hcut;refine⟨_,.inr ⟨h3,_,_,hsc,.inr ⟨d2,hgo.more (by omega),hleft.mono fun c' h=>?_,rfl,rfl⟩⟩,hs.re [0,2,3] rfl⟩;rcases h with e|e
     ·left;rw[e];exact hh1
     ·right;rw[e,hw1.size];exact g4
   ·simp only[HV];refine ZA (by decide) ?_;have hs:Sep [Dk dp d1,Ar ap m.arena peak' [],TT,pts p (aZu dp (some mp)),pts mp (aZa (egM d m peak) ap rp A (psE (egM d m peak)).length mm),pts rp (ZV dp 1 8 ((8*(egM d m peak).per:Nat):Int)),Own 126 8 A (psE (egM d m peak)).length mm (bZq (psE (egM d m peak))),pts b1 (bZD m.r)] H:=hs;refine(eZg (p:=p) (dp:=dp) (mp:=mp) 8).use hs [3] rfl rfl ?_;rintro _ _ H ⟨rfl,rfl⟩ hs;simp only[HV];exact⟨_,.inr ⟨h3,_,_,hsc,.inr ⟨d1,hcut.more (by omega),hleft.mono fun c' h=>.inl (target c' h),rfl,rfl⟩⟩,hs.re [0,1,3] rfl⟩
  refine hs.ld 7 (v:=.int .u32 (m.r.out:Int)) rfl rfl ?_;simp only[HV];refine hs.ld 7 (v:=.int .i64 m.r.ps) rfl rfl ?_;simp only[HV];by_cases h0:m.r.ps=0
  ·refine ZS h0 ?_;refine hs.ld 7 (v:=.int .u32 (m.r.inp:Int)) rfl rfl ?_;simp only[HV];rw[if_pos h0]at s2;exact j7 _ (by rw[s2])
  ·refine aZg h0 ?_;rw[if_neg h0]at s2;exact j7 _ (by rw[s2])
 ·exact ZA h3 ⟨_,.inl ⟨h3,rfl,rfl⟩,hs⟩
end
theorem rZQ :bZi prog 82=some (1,8,some #[.int .u64 0]):=by kernel_rfl
theorem rZp (n:Nat):aZv [Value.int .u64 0] n=Zc (List.replicate n 0):=by
 rw[bZw];unfold Zc;rw[List.map_replicate];rfl
def rdC (m:Mn)(per i:Nat):Nat:=nS per (2^m.r.kk.toNat)+(pcs per (exX m.most per i m.r.kk.toNat).f (2^m.r.kk.toNat) 0 (2^m.r.kk.toNat)).length
section
variable {p dp : Nat} {d : D} {c : Cn} {m : Mn} {peak : Int} (hc : Clean d c) (hh : Holds d.sec d.size m c) (ho : d.rd ≤ 800000 ∧ d.wr ≤ 800000 ∧ d.sy ≤ 800000) (hpk : peak ≤ m.arena)
include hc hh ho hpk
def sZ8 (p dp:Nat)(d:D)(c:Cn)(m:Mn)(i:Nat)(l:List UInt64)(v:Value)(M:List As):Prop:=
 (∃ d' b mm peak',peak'≤(m.arena:Int)∧bZA d d' (rdC m (d.size/8) i) 0 0∧Clean d' c∧v= .tuple #[.slice (some ⟨b,0,none⟩) l.length l.length,.int .i64 0]∧M=[En p dp (some (egM d m peak')),Dk dp d',pts b (.row (Zc l) 82 mm)])∨
 (∃ d',Cut d d' (rdC m (d.size/8) i)∧Left d' (fun c'=>c'=c)∧v= .tuple #[.slice none 0 0,.int .i64 8]∧M=[En p dp none,Dk dp d'])
theorem vZU {i:Nat}(hi:i<4){l:List UInt64}(hl:l.length=2^m.r.kk.toNat)(hw:cws c (d.size/8) (exX m.most (d.size/8) i m.r.kk.toNat).f (2^m.r.kk.toNat)=l)(want:Int)(hwant:want=(eZJ l:Int)):
  Tr prog 62 #[.pointer (some ⟨p,0,none⟩),.int .i64 (i:Int),.int .u32 want] [En p dp (some (egM d m peak)),Dk dp d] (sZ8 p dp d c m i l):=fun H hs=>by
 have he:=hh.eg hpk;have hok:=hc.ok;have hpd:=Ok.per_le hok;have hlay:=he.lay;have hkk:0≤m.r.kk∧m.r.kk.toNat≤m.most:=he.kk0;have hm32:=he.most;have hm32:m.most≤32:=hm32;have h2k:=cZI (k:=m.r.kk.toNat) (by omega);have h2p:=Nat.two_pow_pos m.r.kk.toNat;have hper8:d.size/8=D.per d:=rfl;have hcapd:D.per d≤m.arena:=by
  have:=hh.least;unfold aZR at this;rw[hper8]at this;omega
 have hcap:m.arena≤16777216:=by have:=(cZ7 hh.good).2.2.2;omega
 obtain⟨mp,ap,rp,A,mm,hs⟩:=En.whole hs;have hs:Sep [pts p (aZu dp (some mp)),pts mp (aZa (egM d m peak) ap rp A (psE (egM d m peak)).length mm),Ar ap m.arena peak [],pts rp (ZV dp 1 8 ((8*(egM d m peak).per:Nat):Int)),Own 126 8 A (psE (egM d m peak)).length mm (bZq (psE (egM d m peak))),Dk dp d] H:=hs;have back:∀(H:Hp) (peak':Int) (d':D) (L:List As),Sep ([pts p (aZu dp (some mp)),pts mp (aZa (egM d m peak) ap rp A (psE (egM d m peak)).length mm),Ar ap m.arena peak' [],pts rp (ZV dp 1 8 ((8*(egM d m peak).per:Nat):Int)),Own 126 8 A (psE (egM d m peak)).length mm (bZq (psE (egM d m peak))),Dk dp d']++L) H→Sep (En p dp (some (egM d m peak'))::Dk dp d'::L) H:=fun H peak' d' L hs=>
  En.unwhole (mp:=mp) (ap:=ap) (rp:=rp) (A:=A) (m:=mm) (e:=egM d m peak') (L:=Dk dp d'::L) hs
 apply cZY.ok;unfold cZY
 try simp only[HS]
 refine hs.ld 0 (v:=.pointer (some ⟨dp,0,none⟩)) rfl rfl ?_;simp only[HV];refine hs.ld 0 (v:=.pointer (some ⟨mp,0,none⟩)) rfl rfl ?_;simp only[HV]
 try simp only[HS]
 refine hs.ld 1 (v:=.pointer (some ⟨ap,0,none⟩)) rfl rfl ?_;simp only[HV];refine hs.ld 0 (v:=.pointer (some ⟨mp,0,none⟩)) rfl rfl ?_;simp only[HV]
 try simp only[HS]
 refine hs.lda 1 (off:=4) (n:=17) rfl (by show 4+17≤32;omega) ?_;have eb:(((jZy (egM d m peak) ap rp A (psE (egM d m peak)).length mm).toList.drop 4).take 17).toArray=Lay.bZJ m.most (D.per d):=rfl;rw[eb];refine hs.ld 0 (v:=.pointer (some ⟨mp,0,none⟩)) rfl rfl ?_;simp only[HV]
 try simp only[HS]
 refine hs.ld 1 (v:=.int .i64 m.r.kk) rfl rfl ?_;simp only[HV];have ekk:m.r.kk=(m.r.kk.toNat:Int):=by omega
 rw[ekk];refine(jZ1 (dp:=dp) (ap:=ap) hok hlay hi hkk.2).use hs [5] rfl rfl ?_;rintro _ _ H ⟨q,rfl,rfl⟩ hs;simp only[HV];refine Zq rfl ?_;have hx:On d (exX m.most (D.per d) i m.r.kk.toNat):=hlay.on hok hi hkk.2;have hwx:(exX m.most (D.per d) i m.r.kk.toNat).w=2^m.r.kk.toNat:=rfl;have hs:Sep [Dk dp d,pts q (ZI dp ap (exX m.most (D.per d) i m.r.kk.toNat)),pts p (aZu dp (some mp)),pts mp (aZa (egM d m peak) ap rp A (psE (egM d m peak)).length mm),Ar ap m.arena peak [],pts rp (ZV dp 1 8 ((8*(egM d m peak).per:Nat):Int)),Own 126 8 A (psE (egM d m peak)).length mm (bZq (psE (egM d m peak)))] H:=hs;have hrc:rdC m (d.size/8) i=nS (D.per d) (2^m.r.kk.toNat)+(pcs (D.per d) (exX m.most (D.per d) i m.r.kk.toNat).f (2^m.r.kk.toNat) 0 (2^m.r.kk.toNat)).length:=rfl;have hnl:=lZH (per:=D.per d) (w:=2^m.r.kk.toNat) (by omega) h2p;have hpl:=dZo (D.per d) (exX m.most (D.per d) i m.r.kk.toNat).f (2^m.r.kk.toNat) 0 (2^m.r.kk.toNat);rw[hper8]at hw;generalize exX m.most (D.per d) i m.r.kk.toNat=x at*;refine(mZb (p:=q) (dp:=dp) (ap:=ap) (x:=x) (cap:=m.arena) (peak:=peak) (bufs:=[]) hok hc.down hx (by omega) (by rw[bZX];omega)).use hs [1,0,4] rfl rfl ?_;have hw0:=gZy hc.now x (2^m.r.kk.toNat);have hpk1:mx peak (ZE []+(D.per d:Int))≤m.arena:=iZ2 hpk (by rw[bZX];omega);rintro _ _ H (⟨hf,rfl,rfl⟩|⟨j,hj,hf,rfl,rfl⟩) hs
 ·have hsum:((Go.Crc.sum (form (pws d x 0 x.w))).toNat:Int)=want:=by rw[hwx,hw0,hw,hwant];rfl
  rw[hsum];simp only[HV];refine Zq rfl (Zq rfl ?_);rw[hwx]at hs hf;have hcN:=hc.rdG (nS (D.per d) (2^m.r.kk.toNat));have hwN:=bZA.rdG hf;generalize hN:nS (D.per d) (2^m.r.kk.toNat)=N at*;have hs:Sep [pts q (ZI dp ap x),Dk dp (D.rdG d N),Ar ap m.arena (mx peak (ZE []+(D.per d:Int))) [],pts p (aZu dp (some mp)),pts mp (aZa (egM d m peak) ap rp A (psE (egM d m peak)).length mm),pts rp (ZV dp 1 8 ((8*(egM d m peak).per:Nat):Int)),Own 126 8 A (psE (egM d m peak)).length mm (bZq (psE (egM d m peak)))] H:=hs;refine Za.use (gZB hs 0 rfl) ?_;simp only[HV];rw[hwx];refine hs.mks rZQ rfl (n:=2^m.r.kk.toNat) (m:=2^m.r.kk.toNat) rfl rfl (Nat.le_refl _) (by omega) (by omega) fun b H hs=>?_
  simp only[HV];rw[rZp]at hs;have hrd:(D.rdG d N).rd=d.rd+N:=rfl;have hpeN:D.per (D.rdG d N)=D.per d:=rfl;refine(kZF (p:=q) (dp:=dp) (ap:=ap) (d:=D.rdG d N) (x:=x) (cap:=m.arena) (peak:=mx peak (ZE []+(D.per d:Int))) (bufs:=[]) (rl:=b) (off:=0) (mm:=2^m.r.kk.toNat*1) (el:=82) (xs:=Zc (List.replicate (2^m.r.kk.toNat) 0)) hcN.ok hcN.down ⟨hx.w1,hx.s1,hx.fit,hx.room⟩ (by omega) 0 (2^m.r.kk.toNat) (2^m.r.kk.toNat) (by omega) (by omega) (Nat.le_refl _) (by rw[Zr,List.length_replicate];omega) (by rw[bZX,hpeN];omega)).use hs [0,1,2,7] rfl rfl ?_;have hpx:pws (D.rdG d N) x 0 (2^m.r.kk.toNat)=l:=by rw[← hw];exact gZy hcN.now x (2^m.r.kk.toNat)
  have hall:setAt (Zc (List.replicate (2^m.r.kk.toNat) 0)) 0 (Zc l)=Zc l:=by rw[gZ4 (by rw[Zr,Zr,List.length_replicate];exact hl)]
  have hpk2:mx (mx peak (ZE []+(D.per d:Int))) (ZE []+(D.per d:Int))≤m.arena:=iZ2 hpk1 (by rw[bZX];omega);rintro _ _ H (⟨hf2,rfl,rfl⟩|⟨j,xs',hj,hf2,hxl,rfl,rfl⟩) hs
  ·simp only[HV];refine(eZg (p:=p) (dp:=dp) (mp:=mp) 0).use hs [4] rfl rfl ?_;rintro _ _ H ⟨rfl,rfl⟩ hs;simp only[HV];refine Zq rfl ?_;rw[hpx,hall,hpeN]at hs;have hgo:=hwN.trans (bZA.rdG (d:=D.rdG d N) hf2);refine⟨_,.inl ⟨_,b,_,_,hpk2,by rw[hrc];exact hgo,hcN.rdG _,by rw[hl],rfl⟩,back H _ _ _ (hs.re [0,5,3,6,7,2,4] rfl)⟩
  ·simp only[HV];refine(eZg (p:=p) (dp:=dp) (mp:=mp) 8).use hs [4] rfl rfl ?_;rintro _ _ H ⟨rfl,rfl⟩ hs;simp only[HV];refine ZA (by decide) ?_;have hgo:=hwN.cut (Cut.rdG hcN hf2 hj);exact⟨_,.inr ⟨_,hgo.more (by rw[hrc];show N+0+0+_≤_;rw[hpeN];omega),Left.rdG hcN j,rfl,rfl⟩,hs.re [0,2] rfl⟩
 ·simp only[HV];refine ZA (by decide) ?_;refine(eZg (p:=p) (dp:=dp) (mp:=mp) 8).use hs [3] rfl rfl ?_;rintro _ _ H ⟨rfl,rfl⟩ hs;simp only[HV];rw[hwx]at hj;exact⟨_,.inr ⟨_,(Cut.rdG hc hf hj).more (by rw[hrc];omega),Left.rdG hc j,rfl,rfl⟩,hs.re [0,2] rfl⟩
def qZY (m:Mn)(per:Nat):List UInt64:=apL (aZ4 m per m.r) m.inp
def vZM (p dp:Nat)(d:D)(c:Cn)(m:Mn)(peak:Int)(v:Value)(M:List As):Prop:=
 (stM m (d.size/8)≠4∧v= .tuple #[.slice none 0 0,.int .i64 12]∧M=[En p dp (some (egM d m peak)),Dk dp d])∨(stM m (d.size/8)=4∧sZ8 p dp d c m 3 (qZY m (d.size/8)) v M)
theorem nZr :Tr prog 26 #[.pointer (some ⟨p,0,none⟩)] [En p dp (some (egM d m peak)),Dk dp d] (vZM p dp d c m peak):=fun H hs=>by
 apply bZ3.ok;unfold bZ3;refine(hZX (p:=p) (dp:=dp) (some (egM d m peak))).use hs [0] rfl rfl ?_;rintro _ _ H ⟨rfl,rfl⟩ hs;have est:stG (some (egM d m peak))=stM m (d.size/8):=iZi;rw[est];simp only[HV];by_cases h4:stM m (d.size/8)=4
 ·refine Zq h4 ?_;have hk:3≤m.r.kd∧¬m.r.ps<((aZ4 m (d.size/8) m.r).length:Int):=by
   unfold stM at h4;by_cases e2:m.r.kd=2
   ·rw[if_pos e2]at h4;omega
   ·rw[if_neg e2]at h4;by_cases e3:m.r.kd<3
    ·rw[if_pos e3]at h4;omega
    ·rw[if_neg e3]at h4;by_cases e4:m.r.ps<((aZ4 m (d.size/8) m.r).length:Int)
     ·rw[if_pos e4]at h4;omega
     ·exact⟨by omega,e4⟩
  have eL:=Mn.r_kd (m:=m) (by omega);have hr:=hh.log.last eL;have hl1:=(cZ6 (fZE m.r) m.r.kk.toNat (d.size/8) m.arena).1;have hl1:1≤(aZ4 m (d.size/8) m.r).length:=hl1;have hkd4:m.r.kd=4:=by
   obtain⟨_,_,_,_,_,h|h|h|h⟩:=hr.1<;>omega
  have hout:=hh.out _ eL hkd4;have hpsl:=hout.ps;have hpe:m.r.ps.toNat=(aZ4 m (d.size/8) m.r).length:=by omega
  have hlast:∃ pz,(aZ4 m (d.size/8) m.r)[m.r.ps.toNat-1]? =some pz∧pz.o=3:=by
   have:(aZ4 m (d.size/8) m.r)[(aZ4 m (d.size/8) m.r).length-1]? =some ((aZ4 m (d.size/8) m.r)[(aZ4 m (d.size/8) m.r).length-1]'(by omega)):=List.getElem?_eq_getElem _;refine⟨_,by rw[hpe];exact this,?_⟩;unfold aZ4 aZb;split
   ·rfl
   ·rfl
  obtain⟨pz,hpz,ho3⟩:=hlast;have hws:=hout.ws pz hpz;have hsum:=hout.sum;rw[hpe,List.take_length]at hws hsum;rw[ho3]at hws;obtain⟨mp,ap,rp,A,mm,hs⟩:=En.whole hs
  try simp only[HS]
  refine hs.ld 0 (v:=.pointer (some ⟨mp,0,none⟩)) rfl rfl ?_;simp only[HV]
  try simp only[HS]
  refine hs.ld 1 (v:=.int .u32 (m.r.out:Int)) rfl rfl ?_;simp only[HV];have hs:=En.unwhole hs;have hs:Sep [En p dp (some (egM d m peak)),Dk dp d] H:=hs;have hlen:(qZY m (d.size/8)).length=2^m.r.kk.toNat:=by
   have:=congrArg List.length hws;rw[vZq]at this;exact this.symm
  refine(vZU (p:=p) (dp:=dp) hc hh ho hpk (i:=3) (by omega) hlen hws _ (by rw[hsum];rfl)).use hs [0,1] rfl rfl ?_;rintro v M H hq hs;rw[show rest [En p dp (some (egM d m peak)),Dk dp d] [0,1]=[]from rfl,List.append_nil]at hs;rcases hq with⟨d',b,mm,peak',h1,h2',h3,rfl,rfl⟩|⟨d',h1,h2',rfl,rfl⟩
  ·simp only[HV];exact⟨_,.inr ⟨h4,.inl ⟨d',b,mm,peak',h1,h2',h3,rfl,rfl⟩⟩,hs⟩
  ·simp only[HV];exact⟨_,.inr ⟨h4,.inr ⟨d',h1,h2',rfl,rfl⟩⟩,hs⟩
 ·exact ZA h4 ⟨_,.inl ⟨h4,rfl,rfl⟩,hs⟩
end
theorem vZs (b:Bool)(K:Value→Prop)(k:K (.bool b)):DR prog [4] (.bool b) K:=by
 show DT prog 4 (.bool b) K
 unfold DT;rw[show prog.underlying 4=some .bool by kernel_rfl];exact k
theorem eZq (x:Int)(K:Value→Prop)(k:K (.int .i64 x)):DR prog [40] (.int .i64 x) K:=by
 show DT prog 40 (.int .i64 x) K
 unfold DT;rw[show prog.underlying 40=some (.int .i64) by kernel_rfl];exact k
theorem oZE {p:Prop}[Decidable p]{X Y:Prop}(h1:p→Y)(h2:¬p→X):BIf (!decide p) X Y:=by
 by_cases h:p
 ·rw[decide_eq_true h];exact aZc rfl (h1 h)
 ·rw[decide_eq_false h];exact aZx rfl (h2 h)
def fZB (l:List UInt64):Prop:=∀ x∈l,x.toNat<18446744069414584321
instance (l :List UInt64):Decidable (fZB l):=by unfold fZB;infer_instance
theorem kZ8 (H:Hp)(A:OA)(n m:Nat)(xs:List UInt64)(hn:n=xs.length)(hl:n≤1000000000)(hc:Cells H A (Zc xs)):
  ∀(t j:Nat),j+t=n→(∀ k x,k<j→xs[k]? =some x→x.toNat<18446744069414584321)→
   Zx.l2 (fun v H'=>(∃ i:Int,v= .int .i64 i∧(i<0↔fZB xs))∧H'=H) (t+1) A n m 107 #[] #[] (n:Int) (j:Int) H
 |0,j,hj,hall=>by
  unfold Zx.l2;refine Zh (by omega) ⟨⟨-1,rfl,fun _ x hx=>?_,fun _=>by decide⟩,rfl⟩;obtain⟨k,hk,rfl⟩:=List.getElem_of_mem hx;exact hall k _ (by omega) (List.getElem?_eq_getElem hk)
 |t+1,j,hj,hall=>by
  unfold Zx.l2;refine Zn (by omega) ?_;have hg:xs[j]? =some (xs[j]'(by omega)):=List.getElem?_eq_getElem (by omega);have hg2:(Zc xs)[j]? =some (.int .u64 ((xs[j]'(by omega)).toNat:Int)):=by rw[aZ9,hg];rfl
  refine hc.read hg2 rfl (by rw[Zr];omega) ?_;simp only[HV];refine aZx (by kernel_rfl) ?_;have hv:Za prog 107 #[.int .u64 ((xs[j]'(by omega)).toNat:Int)] H (RetE (.bool (!(decide (((xs[j]'(by omega)).toNat:Int)<18446744069414584321)))) H):=by
   apply eZC.ok;unfold eZC;have hg:Za prog 108 #[.int .u64 ((xs[j]'(by omega)).toNat:Int)] H (RetE (.bool (decide (((xs[j]'(by omega)).toNat:Int)<18446744069414584321))) H):=by
    apply gZI.ok;unfold gZI;exact RetE.mk _ _
   refine Za.use hg ?_;simp only[HV];exact RetE.mk _ _
  refine Za.use hv ?_;have hr:bZv prog 107=[4]:=by kernel_rfl
  rw[hr];refine vZs _ _ ?_;simp only[HV];generalize hz:((xs[j]'(by omega)).toNat:Int)=z at*;refine oZE (fun hx=>?_) (fun hx=>?_)
  ·rw[ZG (x:=(j:Int)+1) (by omega) (by omega)];refine kZ8 H A n m xs hn hl hc t (j+1) (by omega) fun k x hk hkx=>?_
   by_cases e:k=j
   ·subst e;rw[hg]at hkx;have:=Option.some.inj hkx;rw[this]at hz;omega
   ·exact hall k x (by omega) hkx
  ·refine⟨⟨j,rfl,fun h=>by omega,fun h=>?_⟩,by trivial⟩;have:=h _ (List.getElem_mem (show j<xs.length by omega));omega
theorem rZs (A:OA)(n m:Nat)(xs:List UInt64)(hn:n=xs.length)(hl:n≤1000000000)(H:Hp)(hc:Cells H A (Zc xs)):
  Za prog 80 #[.slice A n m] H fun v H'=>(∃ i:Int,v= .tuple #[.int .i64 i,.bool (decide (fZB xs))])∧H'=H:=by
 apply fZl.ok;unfold fZl;have hI:Za prog 106 #[.slice A n m,.func (.func 107) #[] #[]] H (fun v H'=>(∃ i:Int,v= .int .i64 i∧(i<0↔fZB xs))∧H'=H):=by
  apply Zx.ok;unfold Zx;exact⟨n+1,kZ8 H A n m xs hn hl hc n 0 (by omega) fun k x hk=>absurd hk (by omega)⟩
 refine Za.mono hI ?_;rintro _ _ ⟨⟨i,rfl,hi⟩,rfl⟩;simp only[HV];by_cases h:i<0
 ·rw[decide_eq_true h,decide_eq_true (hi.1 h)];exact⟨⟨_,rfl⟩,by trivial⟩
 ·rw[decide_eq_false h,decide_eq_false (fun hh=>h (hi.2 hh))];exact⟨⟨_,rfl⟩,by trivial⟩
inductive hZ2 (l:List UInt64)(most:Int):Int→Int→Int→Prop
 |len (h:lg (l.length:Int)=none):hZ2 l most 0 0 4
 |big {k:Nat} (h:lg (l.length:Int)=some k) (h2:most<k):hZ2 l most 0 0 14
 |word {k:Nat} {i:Int} (h:lg (l.length:Int)=some k) (h2:(k:Int)≤most) (h3:¬fZB l):hZ2 l most 0 i 3
 |ok {k:Nat} (h:lg (l.length:Int)=some k) (h2:(k:Int)≤most) (h3:fZB l):hZ2 l most k 0 0
theorem rZD (A:OA)(n m:Nat)(xs:List UInt64)(most:Int)(hn:n=xs.length)(hl:n≤1000000000)(H:Hp)(hT:T64 H)(hc:Cells H A (Zc xs)):
  Za prog 52 #[.slice A n m,.int .i64 most] H fun v H'=>(∃ k i e,hZ2 xs most k i e∧v= .tuple #[.int .i64 k,.int .i64 i,.int .i64 e])∧H'=H:=by
 apply fZV.ok;unfold fZV;refine Za.use (iZt (n:Int) H hT) ?_;unfold bZG;rw[hn];cases e:lg (xs.length:Int)with
 |none=>
  simp only[HV];exact⟨⟨_,_,_,.len e,rfl⟩,by trivial⟩
 |some k=>
  simp only[HV];by_cases h2:(k:Int)>most
  ·exact Zn h2 ⟨⟨_,_,_,.big e h2,rfl⟩,by trivial⟩
  ·refine Zh h2 ?_;refine Za.mono (rZs A xs.length m xs rfl (by omega) H hc) ?_;rintro _ _ ⟨⟨i,rfl⟩,rfl⟩;simp only[HV];refine oZE (fun hx=>?_) (fun hx=>?_)
   ·exact⟨⟨_,_,_,.ok e (by omega) hx,rfl⟩,by trivial⟩
   ·exact⟨⟨_,_,_,.word e (by omega) hx,rfl⟩,by trivial⟩
def wiR (per k:Nat):Nat:=cZS per 9 (2^k) 0 (2^k)
def wiW (per k:Nat):Nat:=(pcs per 9 (2^k) 0 (2^k)).length
theorem lZ4 (per k:Nat):wiR per k≤wiW per k:=List.length_filter_le _ _
theorem lZ5 (per k:Nat):wiW per k≤2^k:=dZo per 9 (2^k) 0 (2^k)
def pZc (mp dp ap rp:Nat)(e:Eg)(A:OA)(n mm:Nat)(d:D)(c:Cn)(k:Nat)(l:List UInt64)(R:As)(v:Value)(M:List As):Prop:=
 ∃ peak':Int,peak'≤e.arena∧
 ((∃ d' c',bZA d d' (wiR (D.per d) k+nS (D.per d) (2^k)) (wiW (D.per d) k) 1∧Clean d' c'∧Sam (inX (exX e.most (D.per d) 0 k)) c c'∧cws c' (D.per d) 9 (2^k)=l∧v= .tuple #[.int .u32 (eZJ l:Int),.int .i64 0]∧M=[pts mp (aZa e ap rp A n mm),Ar ap e.arena peak' [],Dk dp d',R])∨
 (∃ d' s,Cut d d' (wiR (D.per d) k+wiW (D.per d) k+1+nS (D.per d) (2^k))∧Left d' (fun c'=>Sam (inX (exX e.most (D.per d) 0 k)) c c')∧v= .tuple #[.int .u32 s,.int .i64 8]∧M=[pts mp (aZa e ap rp A n mm),Ar ap e.arena peak' [],Dk dp d',R]))
theorem uZH {mp dp ap rp:Nat}{e:Eg}{A:OA}{n mm:Nat}{d:D}{c:Cn}{k:Nat}{l:List UInt64}{R:As}{As:OA}{ns ms:Nat}(hc:Clean d c)(he:fZP e d)(hk:k≤e.most)(ho:d.rd≤100000000000∧d.wr≤100000000000∧d.sy≤100000000000)
  (hl:l.length=2^k) (hns:ns=l.length) (hms:ns≤ms) (hR:∀ H,R H→Cells H As (Zc l)):
  Tr prog 56 #[.pointer (some ⟨mp,0,none⟩),.pointer (some ⟨dp,0,none⟩),.int .i64 (k:Int),.slice As ns ms] [pts mp (aZa e ap rp A n mm),Ar ap e.arena e.peak [],Dk dp d,R] (pZc mp dp ap rp e A n mm d c k l R):=fun H hs=>by
 subst hns;have hok:=hc.ok;have hpd:=Ok.per_le hok;have hlay:=he.lay;have hm32:=he.most;have h2k:=cZI (k:=k) (by omega);have h2p:=Nat.two_pow_pos k;have hpk:=he.peak;have hcap:=he.arena;have hper:=he.per;have hcapd:D.per d≤e.arena:=by
  have:=he.least;unfold aZR at this;rw[hper]at this;omega
 have hx0:On d (exX e.most (D.per d) 0 k):=hlay.on hok (by omega) hk;obtain⟨x,hX⟩:∃ x,x=exX e.most (D.per d) 0 k:=⟨_,rfl⟩;have hx:On d x:=by rw[hX];exact hx0
 have hxw:x.w=l.length:=by rw[hX,hl];rfl
 have hxf:x.f=9:=by rw[hX];show 9+0*_=9;omega
 have hwR:cZS (D.per d) x.f l.length 0 l.length=wiR (D.per d) k:=by rw[hxf,hl];rfl
 have hwW:(pcs (D.per d) x.f l.length 0 l.length).length=wiW (D.per d) k:=by rw[hxf,hl];rfl
 have hb1:=lZ4 (D.per d) k;have hb2:=lZ5 (D.per d) k;have hin:=oZn hx;apply ZC.ok;unfold ZC;have j2:∀ q H,Sep [Dk dp d,pts q (ZI dp ap x),pts mp (aZa e ap rp A n mm),Ar ap e.arena e.peak [],R] H→ZC.j2 (fun v H'=>∃ M,pZc mp dp ap rp e A n mm d c k l R v M∧Sep M H') (some ⟨dp,0,none⟩) As l.length ms 0 (some ⟨q,0,none⟩) H:=fun q H hs=>by
  unfold ZC.j2;refine ZS rfl ?_;have bad:∀(peak':Int) (d':D) (s:Int) (H:Hp),peak'≤e.arena→Cut d d' (wiR (D.per d) k+wiW (D.per d) k+1+nS (D.per d) (2^k))→Left d' (fun c'=>Sam (inX x) c c')→Sep [pts mp (aZa e ap rp A n mm),Ar ap e.arena peak' [],Dk dp d',R] H→∃ M,pZc mp dp ap rp e A n mm d c k l R (.tuple #[.int .u32 s,.int .i64 8]) M∧Sep M H:=fun peak' d' s H h1 h2 h3 hs=>
   ⟨_,⟨peak',h1,.inr ⟨d',s,h2,by rw[← hX];exact h3,rfl,rfl⟩⟩,hs⟩
  refine(jZn (p:=q) (dp:=dp) (ap:=ap) (d:=d) (x:=x) (cap:=e.arena) (peak:=e.peak) (bufs:=[]) (src:=l) hok hc.down hx (by omega) 0 rfl (by omega) (by omega) hms (by rw[bZX];omega) hR).use hs [1,0,3,4] rfl rfl ?_;have hpk1:mx e.peak (ZE []+(D.per d:Int))≤e.arena:=iZ2 hpk (by rw[bZX];omega);rintro _ _ H (⟨hP,rfl,rfl⟩|⟨d',hD,hfu,rfl,rfl⟩) hs
  ·simp only[HV];unfold ZC.j4;refine ZS rfl ?_;have h2:=hP.sy;have hrd:=hP.rd;have hwr:=hP.wr;rw[hwR,hwW]at hP;refine(hZz (p:=dp) hP.ok (by rw[h2];omega)).use hs [1] rfl rfl ?_;rintro _ _ H ⟨rfl,rfl⟩ hs;have hpw:=wZn x hok l;generalize hd1:dZ3 d x l.length 0 l=d1 at*;have hpe1:D.per d1=D.per d:=hP.per;have hsam:Sam (inX x) c d1.now:=fun i hi=>(hc.prog hP i).2 hi
   have hcw:cws d1.now (D.per d) 9 (2^k)=l:=by rw[← hxf,←hpe1,←hl,←gZy (d:=d1) (c:=d1.now) (fun _=>rfl) x l.length];exact hpw
   rcases hc.sync hP hin with⟨e0,hw2,hc2⟩|⟨e0,hcut,hleft⟩
   ·rw[e0];simp only[HV];unfold ZC.j6;refine Zq rfl ?_;have hs:Sep [Dk dp d1.syncD,pts q (ZI dp ap x),Ar ap e.arena (mx e.peak (ZE []+(D.per d:Int))) [],R,pts mp (aZa e ap rp A n mm)] H:=hs;have hpe2:D.per d1.syncD=D.per d:=hw2.per;have hrd2:=hw2.rd;have hx2:On d1.syncD x:=⟨hx.w1,hx.s1,by rw[hw2.sec];exact hx.fit,by rw[hpe2];exact hx.room⟩;refine(mZb (p:=q) (dp:=dp) (ap:=ap) (x:=x) (cap:=e.arena) (peak:=mx e.peak (ZE []+(D.per d:Int))) (bufs:=[]) hc2.ok hc2.down hx2 (by omega) (by rw[bZX,hpe2];omega)).use hs [1,0,2] rfl rfl ?_;have hw0:pws d1.syncD x 0 x.w=l:=by rw[gZy hc2.now,hpe2,hxf,hxw,hl];exact hcw
    have hpk2:mx (mx e.peak (ZE []+(D.per d:Int))) (ZE []+(D.per d1.syncD:Int))≤e.arena:=iZ2 hpk1 (by rw[bZX,hpe2];omega);rintro _ _ H (⟨hf,rfl,rfl⟩|⟨j,hj,hf,rfl,rfl⟩) hs
    ·rw[hw0];simp only[HV];rw[hpe2,hxw,hl]at hf hs;have hgo:=hw2.trans (bZA.rdG hf);refine⟨_,⟨_,hpk2,.inl ⟨_,_,hgo,hc2.rdG _,by rw[← hX];exact hsam,hcw,rfl,rfl⟩⟩,?_⟩;rw[hpe2];exact hs.re [4,2,1,3] rfl
    ·simp only[HV];rw[hpe2,hxw,hl]at hj;refine bad _ _ _ H hpk2 ((hw2.cut (Cut.rdG hc2 hf hj)).more (by omega)) ((Left.rdG hc2 j).mono fun c' e=>by rw[e];exact hsam) (hs.re [4,2,1,3] rfl)
   ·rw[e0];simp only[HV];unfold ZC.j6;refine ZA (by decide) ?_;refine bad _ _ _ H hpk1 (hcut.more (by omega)) (hleft.mono fun _ h=>h.2) (hs.re [4,2,0,3] rfl)
  ·simp only[HV];unfold ZC.j4;refine aZg (by decide) ?_;unfold ZC.j6;refine ZA (by decide) ?_;have hf1:1≤d.fuse:=by have h1:=hD.cnt;have h2:=hD.rd;have h3:=hD.wr;omega
   rw[hwR,hwW]at hfu;refine bad _ _ _ H hpk1 ((hc.deadCut hD hin hfu hf1).more (by omega)) (hc.deadLeft hD) (hs.re [4,2,1,3] rfl)
 have pipe:∀ H,Sep [pts mp (aZa e ap rp A n mm),Ar ap e.arena e.peak [],Dk dp d,R] H→Za prog 82 #[.pointer (some ⟨dp,0,none⟩),.pointer (some ⟨ap,0,none⟩),.agg (Lay.bZJ e.most (D.per d)),.int .i64 0,.int .i64 (k:Int)] H fun v H1=>∃ q,v= .tuple #[.pointer (some ⟨q,0,none⟩),.int .i64 0]∧Sep [Dk dp d,pts q (ZI dp ap x),pts mp (aZa e ap rp A n mm),Ar ap e.arena e.peak [],R] H1:=fun H hs=>by
  refine(jZ1 (dp:=dp) (ap:=ap) (i:=0) hok hlay (by omega) hk).use hs [2] rfl rfl ?_;rintro _ _ H ⟨q,rfl,rfl⟩ hs;exact⟨q,rfl,by rw[hX];exact hs⟩
 have eb:(((jZy e ap rp A n mm).toList.drop 4).take 17).toArray=Lay.bZJ e.most (D.per d):=by rw[← hper];rfl
 try simp only[HS]
 constructor
 ·refine hs.ld 0 (v:=.pointer (some ⟨ap,0,none⟩)) rfl rfl ?_;simp only[HV];refine hs.lda 0 (off:=4) (n:=17) rfl (by show 4+17≤32;omega) ?_;rw[eb];refine Za.mono (pipe H hs) ?_;rintro _ H ⟨q,rfl,hs⟩;simp only[HV];exact j2 q H hs
 ·refine hs.lda 0 (off:=4) (n:=17) rfl (by show 4+17≤32;omega) ?_;refine hs.ld 0 (v:=.pointer (some ⟨ap,0,none⟩)) rfl rfl ?_;simp only[HV];rw[eb];refine Za.mono (pipe H hs) ?_;rintro _ H ⟨q,rfl,hs⟩;simp only[HV];exact j2 q H hs
end Eng
end Go.Proofs.YtgfildcgihbdaaaGreatDoor
