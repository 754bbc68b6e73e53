import Derived.Test.YtlgnlghmbcpmhaaGreatDoorPkEngineCrashes11
set_option maxRecDepth 100000
set_option linter.unusedSimpArgs false
set_option linter.unusedVariables false
set_option linter.unnecessarySimpa false
set_option linter.unusedSectionVars false
open Go.IntKind (i64)
namespace Go.Proofs.YtlgnlghmbcpmhaaGreatDoor
open Tryz (prog)
namespace Eng
open Go Go.Hw Go.Form W Shp Dsk Str Are Trn Pas Pln Rec Srt Rng
theorem jh (sc:Nat)(o:Option Mn)(A:OA)(n m:Nat):(gq sc o A n m).toList=[I (dj (32/8) o).1,I (dj (32/8) o).2.1,I (dj (32/8) o).2.2.1,I (dj (32/8) o).2.2.2.1,I (dj (32/8) o).2.2.2.2.1,I (dj (32/8) o).2.2.2.2.2,I (q9 o),I (rO o),I sc,I 32,I (uu o),.slice A n m]:=rfl
def Rg (o:Option Mn):Prop:=∀ y∈iJ (dj (32/8) o),-9223372036854775808<=y/\y<=9223372036854775807
theorem rg_of {m:Mn}(h1:m.r.ld<=100000)(h2: -100000<=m.r.kk/\m.r.kk<=100000)(h3:m.r.dir=0\/m.r.dir=1)(h4: -100000<=m.r.ps/\m.r.ps<=100000):Rg (some m):=by
 have h44:=iz m 4;have hpl4:(cE m 4 m.r).length<=5:=(kP (iN m.r) m.r.kk.toNat 4 m.aO).2;intro x hx;rw[gL]at hx;by_cases e1:stM m (32/8)=1
 .rw[if_pos e1]at hx;simp[iJ]at hx;omega
 .rw[if_neg e1]at hx;by_cases e2:stM m (32/8)=2
  .rw[if_pos e2]at hx;simp[iJ]at hx;omega
  .rw[if_neg e2]at hx;simp[iJ]at hx;omega
theorem Ei :Rg none:=fun x hx=>by simp[iJ,dj,z6]at hx;omega
theorem Lo.small {N:Nat}{d:D}{c:Cn}{m:Mn}(hL:Lo N d c (some m))(hN:N<=390):m.r.ld<=390/\0<=m.r.kk/\m.r.kk<=6/\(m.r.dir=0\/m.r.dir=1)/\0<=m.r.ps/\m.r.ps<=7:=by
 have hV:=hL.lp m rfl;have:=hV.ld;have:=hV.aA;have:=(Mn.nK hV.hh).2.2;rcases(Mn.nK hV.hh).1 with e|e
 .rw[e];exact⟨by decide,by decide,by decide,.inl rfl,by decide,by decide⟩
 .have h2:=e.2.2.2.2.2;exact⟨by omega,e.2.2.1,by omega,e.2.2.2.2.1,by omega,by omega⟩
theorem Bk {N:Nat}{d:D}{c:Cn}{o:Option Mn}(hL:Lo N d c o)(hN:N<=390:=by omega):Rg o:=HH hL hN
theorem Kg {N sec:Nat}{d:D}{c:Cn}{o o':Option Mn}{a:eQ}{e:Int}{w:List UInt64}(hL:Lo N d c o)(hN:N<=390)(hE:Ef sec (32/8) o a e o' w):Rg o':=by
 have h0:=Bk hL hN;cases hE with
 |fmt h=>exact rg_of (by show 0<=_;omega) (by show -100000<=(0:Int)/\(0:Int)<=100000;decide) (.inl rfl) (by show -100000<=(0:Int)/\(0:Int)<=100000;decide)
 | @ld m _ k h hk=>
  have hs:=hL.small hN;have hm:=(hL.lp m rfl).aA;have h1r:(bG m k).r=fL m k:=Mn.fg _ _;have h2r:(cH m k a.l).r=gX (bG m k) k a.l:=Mn.fg _ _;refine rg_of ?_ ?_ ?_ ?_<;>rw[h2r]
  .show(bG m k).r.ld<=_;rw[h1r];show m.r.ld+1<=_;omega
  .show -100000<=(k:Int)/\(k:Int)<=100000;have:=hk.2.1;omega
  .exact .inl rfl
  .show -100000<=(0:Int)/\(0:Int)<=100000;decide
 | @sb m _ b h h24 hb=>
  have hs:=hL.small hN;refine rg_of ?_ ?_ ?_ ?_<;>rw[Mn.fg]
  .show m.r.ld<=_;omega
  .show -100000<=m.r.kk/\m.r.kk<=100000;omega
  .show(if b=true then(1:Int)else 0)=0\/(if b=true then(1:Int)else 0)=1;cases b<;>simp
  .show -100000<=(0:Int)/\(0:Int)<=100000;decide
 | @st m _ h h3=>
  have hs:=hL.small hN;refine rg_of ?_ ?_ ?_ ?_<;>rw[Mn.fg]
  .show m.r.ld<=_;omega
  .show -100000<=m.r.kk/\m.r.kk<=100000;omega
  .exact hs.2.2.2.1
  .show -100000<=m.r.ps+1/\m.r.ps+1<=100000;omega
 |_=>exact h0
set_option maxHeartbeats 4000000 in
theorem MP {N sc:Nat}{d:D}{c:Cn}{o:Option Mn}{a:eQ}{o':Option Mn}{w:List UInt64}{H0:Hp}{A:OA}{n m:Nat}{RO:As}(hL:Lo N d c o)(hN:N<=390)(hsz:d.size=32)(hsec:d.sec=sc)(hsc:sc<=100)(hE:Ef sc (32/8) o a 0 o' w)(h8:a.k≠8)(ha:tM H0 a)(hsh:ma a)(hI:kz o RO A n):
  Tr prog 29 #[.agg (gq sc o A n m),.agg (cO a).toArray] [RO,own H0] (I6 sc o a o' RO H0):=fun H hs=>by
 have rgo:=Bk hL hN;have rgo':=Kg hL hN hE;obtain⟨bs,z,hcell,hz,hbs⟩:=Gw;have ldb:(uu o:Int)<=390:=by
  cases o with
  |none=>show((0:Nat):Int)<=_;omega
  |some m=>have:=(hL.lp m rfl).ld;show((m.r.ld:Nat):Int)<=_;omega
 apply ct.ok;unfold ct;refine hs.nw fun b1 H hs=>?_
 refine hs.nw fun b2 H hs=>?_
 have hs:Sep [RO,own H0,af b1 (dE sc o A n m),af b2 (Oq (cO a).toArray 37)] H:=hs;refine hs.bd 2 rfl rfl ?_;refine hs.bd 3 rfl rfl ?_
 try simp only[Array.toArray_toList]
 subst hsec;refine(Dx (a:=a) (mm:=m) hL hN hsz (by omega) hE h8 ha hsh hI).use hs [0,1] rfl rfl ?_;rintro _ _ H ⟨X,A',n',m',B',nB,mB,rfl,hI',_,_,rfl⟩ hs;have hs:Sep [X,RO,own H0,af b1 (dE d.sec o A n m),af b2 (Oq (cO a).toArray 37)] H:=hs;simp only[HV];refine hs.nw fun b3 H hs=>?_
 refine hs.dW 5 (y:=gq d.sec o' A' n' m') rfl rfl rfl rfl fun H hs=>?_;refine hs.bd 3 rfl rfl ?_;rw[jh];simp only[HV];refine hs.nw fun b4 H hs=>?_
 have hs:Sep [X,RO,own H0,af b1 (dE d.sec o A n m),af b2 (Oq (cO a).toArray 37),af b3 (dE d.sec o' A' n' m'),af b4 (.row (eh.row d.sec ⟨o,A,n,m⟩) 33 12)] H:=hs;refine aH rfl ?_;have hs:=D3 hs 6 (n:=1) (s:=12) rfl rfl rfl;have hs:Sep [bH 33 12 (Oo b4) 1 1 (([(⟨o,A,n,m⟩:eh)].map (eh.row d.sec)).flatten),X,RO,own H0,af b1 (dE d.sec o A n m),af b2 (Oq (cO a).toArray 37),af b3 (dE d.sec o' A' n' m')] H:=by
  have e:(([(⟨o,A,n,m⟩:eh)].map (eh.row d.sec)).flatten)=eh.row d.sec ⟨o,A,n,m⟩:=by simp
  rw[e];exact hs.re [6,0,1,2,3,4,5] rfl
  -- one more
 have app:∀(reps:List eh) (r:eh) (A4:OA) (n4 m4 b8:Nat) (H:Hp) (K:VK),n4=reps.length->n4<=3->Sep [bH 33 12 A4 n4 m4 ((reps.map (eh.row d.sec)).flatten),X,RO,own H0,af b1 (dE d.sec o A n m),af b2 (Oq (cO a).toArray 37),af b3 (dE d.sec o' A' n' m'),af b8 (.row (eh.row d.sec r) 33 12)] H->
   (∀ A5 m5 H,Sep [bH 33 12 A5 (n4+1) m5 (((reps++[r]).map (eh.row d.sec)).flatten),X,RO,own H0,af b1 (dE d.sec o A n m),af b2 (Oq (cO a).toArray 37),af b3 (dE d.sec o' A' n' m')] H->K (.slice A5 (n4+1) m5) H)->
   gC prog 33 (.slice A4 n4 m4) (.slice (Oo b8) 1 1) H K:=fun reps r A4 n4 m4 b8 H K hn4 h3 hs k=>by
  have hcells:H.cells? (O b8) 0 12=some (eh.row d.sec r):=nQ (hs.get 7 (b:=b8) rfl) 0 12 0 (by show 0+0+12<=12;omega);refine hs.app 0 (k:=1) (ys:=eh.row d.sec r) rfl hcell hz (by omega) (by omega) rfl (by exact hcells) rfl rfl (by have:=Nat.mul_le_mul (show n4+1<=4 by omega) hbs;omega) (by omega) fun A5 m5 H hs=>?_
  refine k A5 m5 H ?_;have e:((reps++[r]).map (eh.row d.sec)).flatten=(reps.map (eh.row d.sec)).flatten++eh.row d.sec r:=by simp
  rw[e];exact hs.re [0,1,2,3,4,5,6] rfl
 have rf:∀ z,Alike z z:=fun z=>⟨rfl,rfl,rfl,rfl,fun _ _ _ h=>h⟩
  -- the end
 have done:∀(reps:List eh) (A5:OA) (m5:Nat) (H:Hp),reps.length<=3->(∀ x,dm o a o' x->∃ r∈reps,r.o=x)->F0 (reps.map eh.o)->(∀ r∈reps,(kz r.o X r.A r.n\/kz r.o RO r.A r.n)/\Rg r.o)->Sep [bH 33 12 A5 reps.length m5 ((reps.map (eh.row d.sec)).flatten),X,RO,own H0,af b1 (dE d.sec o A n m),af b2 (Oq (cO a).toArray 37),af b3 (dE d.sec o' A' n' m')] H->
   ∃ M,I6 d.sec o a o' RO H0 (.slice A5 reps.length m5) M/\Sep M H:=fun reps A5 m5 H h1 h2 h3 h4 hs=>
  ⟨_,⟨reps,X,A5,reps.length,m5,rfl,rfl,h1,h2,h3,h4,rfl⟩,hs.re [0,1,2,3] rfl⟩
 have okO:(kz o X A n\/kz o RO A n)/\Rg o:=⟨.inr hI,rgo⟩;have okO':(kz o' X A' n'\/kz o' RO A' n')/\Rg o':=⟨hI',rgo'⟩
 try simp only[HS]
 refine hs.ld 5 (v:=I a.k) rfl rfl ?_;simp only[HV];by_cases h0:a.k=0
 .-- a format
  refine aL h0 ?_;refine hs.ld 4 (v:=I (d.sec:Int)) rfl rfl ?_;simp only[HV];refine ae.use (Dh d.sec H) ?_;simp only[HV];rw[jh];simp only[HV];refine hs.nw fun b5 H hs=>?_
  have hs:Sep [bH 33 12 (Oo b4) 1 1 (([(⟨o,A,n,m⟩:eh)].map (eh.row d.sec)).flatten),X,RO,own H0,af b1 (dE d.sec o A n m),af b2 (Oq (cO a).toArray 37),af b3 (dE d.sec o' A' n' m'),af b5 (.row (eh.row d.sec ⟨none,.none,0,0⟩) 33 12)] H:=hs;refine app [⟨o,A,n,m⟩] ⟨none,.none,0,0⟩ _ 1 1 b5 H _ rfl (by omega) hs fun A5 m5 H hs=>?_
  simp only[HV];unfold ct.j7 ct.j7.q1
  try simp only[HS]
  refine hs.ld 5 (v:=I a.k) rfl rfl ?_;simp only[HV];refine aK (by omega) ?_;refine hs.ld 5 (v:=I a.k) rfl rfl ?_;simp only[HV];refine aK (by omega) ?_;refine hs.bd 6 rfl rfl ?_;rw[jh];simp only[HV];refine hs.nw fun b8 H hs=>?_
  refine app [⟨o,A,n,m⟩,⟨none,.none,0,0⟩] ⟨o',A',n',m'⟩ _ 2 m5 b8 H _ rfl (by omega) hs fun A6 m6 H hs=>?_
  simp only[HV];have hlow:(dj (32/8) o').1<2:=by
   generalize he:(0:Int)=e at hE;cases hE with
   |xQ h he'=>exact absurd he.symm he'
   |fmt h=>show(1:Int)<2;decide
   |ur h=>omega
   |B3 h=>omega
   |ld h=>omega
   |uN h=>omega
   |Cy h=>omega
   |yp h=>omega
   |sb h=>omega
   |uV h=>omega
   |CF h=>omega
   |st h=>omega
   |sR h=>omega
   |rc h=>omega
   |uJ h=>omega
   |Cv h=>omega
   |ri h=>omega
   |uK h=>omega
   |Cw h=>omega
   |ro h=>omega
   |vS h=>omega
  have l0:(dj (32/8) none).1<2:=by show(0:Int)<2;decide
  refine done [⟨o,A,n,m⟩,⟨none,.none,0,0⟩,⟨o',A',n',m'⟩] A6 m6 H (by show 3<=3;omega) (fun x hx=>?_) ?_ (fun r hr=>?_) hs
  .rcases hx with rfl|rfl|⟨_,rfl⟩|⟨h,_⟩
   .exact⟨_,List.mem_cons_self,rfl⟩
   .exact⟨_,List.mem_cons_of_mem _ (List.mem_cons_of_mem _ List.mem_cons_self),rfl⟩
   .exact⟨_,List.mem_cons_of_mem _ List.mem_cons_self,rfl⟩
   .omega
  .exact zK (mV (y:=o) l0).2 (mV l0).1 (mV (y:=o) hlow).2 (mV hlow).1 (mV (y:=o') l0).1 (mV (y:=o') l0).2
  .simp at hr;rcases hr with rfl|rfl|rfl
   .exact okO
   .exact⟨.inr fun m hm=>(by cases hm),Ei⟩
   .exact okO'
 refine aK h0 ?_;by_cases h12:a.k=1\/a.k=2
 .-- a load
  obtain⟨mm,k,rfl,hk,ho'⟩:∃ mm k,o=some mm/\J' a.l mm.aA k/\o'=some (cH mm k a.l):=by
   generalize he:(0:Int)=e at hE;cases hE with
   |xQ h=>omega
   |fmt h=>omega
   |ur h=>omega
   |B3 h hc he'=>exact absurd he.symm he'
   | @ld mm _ k h hk=>exact⟨mm,k,rfl,hk,rfl⟩
   |uN h=>omega
   |Cy h=>omega
   |yp h=>omega
   |sb h=>omega
   |uV h=>omega
   |CF h=>omega
   |st h=>omega
   |sR h=>omega
   |rc h=>omega
   |uJ h=>omega
   |Cv h=>omega
   |ri h=>omega
   |uK h=>omega
   |Cw h=>omega
   |ro h=>omega
   |vS h=>omega
  have hsm:=hL.small hN;obtain⟨w1,w2⟩:=K2 mm k;obtain⟨l1,l2⟩:=K1 mm k a.l;have hld:=uW (m:=mm);have low:(dj (32/8) (some (bG mm k))).1<2:=by omega
  have wiped:∀(K:VK) (H:Hp),Sep [bH 33 12 (Oo b4) 1 1 (([(⟨some mm,A,n,m⟩:eh)].map (eh.row d.sec)).flatten),X,RO,own H0,af b1 (dE d.sec (some mm) A n m),af b2 (Oq (cO a).toArray 37),af b3 (dE d.sec o' A' n' m')] H->
    (∀ H,Sep [bH 33 12 (Oo b4) 1 1 (([(⟨some mm,A,n,m⟩:eh)].map (eh.row d.sec)).flatten),X,RO,own H0,af b1 (dE d.sec (some mm) A n m),af b2 (Oq (cO a).toArray 37),af b3 (dE d.sec o' A' n' m')] H->K (.agg (gq d.sec (some (bG mm k)) .none 0 0)) H)->
    ae prog 84 #[.agg (gq d.sec (some mm) A n m)] H K:=fun K H hs hK=>by
   refine(Hv (s:=dj (32/8) (some mm)) (mo:=(mm.aA:Int)) (ar:=(mm.aO:Int)) (sc:=(d.sec:Int)) (ld:=(mm.r.ld:Int)) (A:=A) (n:=n) (m:=m) (sz:=32) (by omega)).use hs [] rfl rfl ?_;rintro _ _ H ⟨rfl,rfl⟩ hs;rw[La];exact hK H hs
  have fin:∀(A6:OA) (m6:Nat) (H:Hp),Sep [bH 33 12 A6 3 m6 (([(⟨some mm,A,n,m⟩:eh),⟨some (bG mm k),.none,0,0⟩,⟨o',A',n',m'⟩].map (eh.row d.sec)).flatten),X,RO,own H0,af b1 (dE d.sec (some mm) A n m),af b2 (Oq (cO a).toArray 37),af b3 (dE d.sec o' A' n' m')] H->∃ M,I6 d.sec (some mm) a o' RO H0 (.slice A6 3 m6) M/\Sep M H:=fun A6 m6 H hs=>by
   refine done [⟨some mm,A,n,m⟩,⟨some (bG mm k),.none,0,0⟩,⟨o',A',n',m'⟩] A6 m6 H (by show 3<=3;omega) (fun x hx=>?_) ?_ (fun r hr=>?_) hs
   .rcases hx with rfl|rfl|⟨h,_⟩|⟨_,m2,k2,e2,hk2,rfl⟩
    .exact⟨_,List.mem_cons_self,rfl⟩
    .exact⟨_,List.mem_cons_of_mem _ (List.mem_cons_of_mem _ List.mem_cons_self),rfl⟩
    .omega
    .cases e2;obtain rfl:k2=k:=by have:=hk2.1;rw[hk.1]at this;cases this;rfl
     exact⟨_,List.mem_cons_of_mem _ List.mem_cons_self,rfl⟩
   .subst ho';refine zK (mV (y:=some mm) low).2 (mV low).1 (fun h=>?_) (fun h=>?_) (mV low).1 (mV (y:=some (cH mm k a.l)) low).2
    .have:=congrArg (fun s:S6=>s.2.1) h.1;have:(dj (32/8) (some mm)).2.1=(dj (32/8) (some (cH mm k a.l))).2.1:=this;omega
    .have:=congrArg (fun s:S6=>s.2.1) h.1;have:(dj (32/8) (some (cH mm k a.l))).2.1=(dj (32/8) (some mm)).2.1:=this;omega
   .simp at hr;rcases hr with rfl|rfl|rfl
    .exact okO
    .refine⟨.inr fun m2 hm2 h2=>?_,?_⟩
     .cases hm2;have:=iL (aa:=32/8) (m:=bG mm k);omega
     .have h1r:(bG mm k).r=fL mm k:=Mn.fg _ _;have hmo:=(hL.lp mm rfl).aA;have:=hk.2.1;refine rg_of ?_ ?_ ?_ ?_<;>rw[h1r]
      .show mm.r.ld+1<=_;omega
      .show -100000<=(k:Int)/\(k:Int)<=100000;omega
      .exact .inl rfl
      .show -100000<=(0:Int)/\(0:Int)<=100000;decide
    .exact okO'
  unfold ct.j7 ct.j7.q1
  try simp only[HS]
  refine hs.ld 5 (v:=I a.k) rfl rfl ?_;simp only[HV];by_cases h1:a.k=1
  .refine aL h1 ?_;refine hs.bd 4 rfl rfl ?_
   try simp only[Array.toArray_toList]
   refine wiped _ H hs fun H hs=>?_;simp only[HV];rw[jh];simp only[HV];refine hs.nw fun b6 H hs=>?_
   refine app [⟨some mm,A,n,m⟩] ⟨some (bG mm k),.none,0,0⟩ _ 1 1 b6 H _ rfl (by omega) hs fun A5 m5 H hs=>?_
   simp only[HV];refine hs.bd 6 rfl rfl ?_;rw[jh];simp only[HV];refine hs.nw fun b8 H hs=>?_
   refine app [⟨some mm,A,n,m⟩,⟨some (bG mm k),.none,0,0⟩] ⟨o',A',n',m'⟩ _ 2 m5 b8 H _ rfl (by omega) hs fun A6 m6 H hs=>?_
   simp only[HV];exact fin A6 m6 H hs
  .refine aK h1 ?_;refine hs.ld 5 (v:=I a.k) rfl rfl ?_;simp only[HV];refine aL (by omega) ?_;refine hs.bd 4 rfl rfl ?_
   try simp only[Array.toArray_toList]
   refine wiped _ H hs fun H hs=>?_;simp only[HV];rw[jh];simp only[HV];refine hs.nw fun b6 H hs=>?_
   refine app [⟨some mm,A,n,m⟩] ⟨some (bG mm k),.none,0,0⟩ _ 1 1 b6 H _ rfl (by omega) hs fun A5 m5 H hs=>?_
   simp only[HV];refine hs.bd 6 rfl rfl ?_;rw[jh];simp only[HV];refine hs.nw fun b8 H hs=>?_
   refine app [⟨some mm,A,n,m⟩,⟨some (bG mm k),.none,0,0⟩] ⟨o',A',n',m'⟩ _ 2 m5 b8 H _ rfl (by omega) hs fun A6 m6 H hs=>?_
   simp only[HV];exact fin A6 m6 H hs
 .unfold ct.j7 ct.j7.q1
  try simp only[HS]
  refine hs.ld 5 (v:=I a.k) rfl rfl ?_;simp only[HV];refine aK (by omega) ?_;refine hs.ld 5 (v:=I a.k) rfl rfl ?_;simp only[HV];refine aK (by omega) ?_;refine hs.bd 6 rfl rfl ?_;rw[jh];simp only[HV];refine hs.nw fun b8 H hs=>?_
  refine app [⟨o,A,n,m⟩] ⟨o',A',n',m'⟩ _ 1 1 b8 H _ rfl (by omega) hs fun A6 m6 H hs=>?_
  simp only[HV];refine done [⟨o,A,n,m⟩,⟨o',A',n',m'⟩] A6 m6 H (by show 2<=3;omega) (fun x hx=>?_) ?_ (fun r hr=>?_) hs
  .rcases hx with rfl|rfl|⟨h,_⟩|⟨h,_⟩
   .exact⟨_,List.mem_cons_self,rfl⟩
   .exact⟨_,List.mem_cons_of_mem _ List.mem_cons_self,rfl⟩
   .omega
   .omega
  .obtain⟨q1,q2⟩:=MB hE h8 h0 h12;exact KO q1 q2
  .simp at hr;rcases hr with rfl|rfl
   .exact okO
   .exact okO'
theorem DF {dp:Nat}{d:D}{L:List As}{H:Hp}(h:Sep L H)(i:Nat)(hi:L[i]? =some (Dk dp d)):ae prog 24 #[.pointer (some ⟨dp,7,none⟩)] H (RetE (.bool d.down) H):=L2 h i hi
structure By (sc:Nat)(reps:List eh)(R0 RA:As)(A4:OA)(n4:Nat):Prop where
 n:n4=reps.length
 le:reps.length<=3
 rg:∀ r∈reps,Rg r.o
 Oa:F0 (reps.map eh.o)
 da:∀ r∈reps,kz r.o R0 r.A r.n
 cs:∀ H,RA H->eU 12 H A4 (reps.map (eh.row sc))
abbrev rV (p dp b1 b3:Nat)(g:Option Eg)(d:D)(R0:As)(H0:Hp)(x:AO)(RA:As)(a:eQ):List As:=[En p dp g,Dk dp d,R0,own H0,af b1 x,RA,af b3 (Oq (cO a).toArray 37)]
abbrev MA :=Option Addr->Nat->Nat->OA->OA->Addr->OA->Nat->Nat->Bool->Int->Hp->Prop
structure Kk (N sc:Nat)(d:D)(c:Cn)(o:Option Mn)(pk:Int)(A:OA)(n m:Nat)(R0 RA:As)(A4:OA)(n4:Nat):Prop where
 lo:Lo N d c o
 sz:d.size=32
 sec:d.sec=sc
 pk:Kc o pk
 nJ:By sc [⟨o,A,n,m⟩] R0 RA A4 n4
structure EA (N sc:Nat)(d:D)(reps:List eh)(R0 RA:As)(A4:OA)(n4:Nat):Prop where
 dd:∃ P,Dd N sc 32 { d with aI:=0} P/\∀ x,P x->∃ r∈reps,r.o=x
 fz:d.aI<=9223372036854775807
 nJ:By sc reps R0 RA A4 n4
theorem EA.down {N sc:Nat}{d:D}{reps:List eh}{R0 RA:As}{A4:OA}{n4:Nat}(h:EA N sc d reps R0 RA A4 n4):d.down=true:=by
 obtain⟨P,h1,_⟩:=h.dd;exact h1.down
section
variable {K : Value -> Hp -> Prop} {R14 : MA} {A3 : Option Addr} {n3 m3 dp b1 sc : Nat} {H0 : Hp} {N : Nat} {x14 : Int}
def Hc (R14:MA)(A3:OA)(n3 m3 dp b1 sc:Nat)(H0:Hp)(N:Nat)(x14:Int):Prop:=∀(H:Hp) (p:Nat) (d:D) (c:Cn) (o:Option Mn) (pk:Int) (A:OA) (n m:Nat) (R0 RA:As) (A4:OA) (n4 m4:Nat),Kk N sc d c o pk A n m R0 RA A4 n4->Sep [En p dp (gO d o pk),Dk dp d,R0,own H0,af b1 (dE sc o A n m),RA] H->R14 A3 n3 m3 (Oo dp) (Oo p) (O b1) A4 n4 m4 true (i64.wrap (x14+1)) H
def Hd (R14:MA)(A3:OA)(n3 m3 dp b1 sc:Nat)(H0:Hp)(N:Nat)(x14:Int):Prop:=∀(H:Hp) (p:Nat) (d:D) (reps:List eh) (o:Option Mn) (A:OA) (n m:Nat) (R0 RA:As) (A4:OA) (n4 m4:Nat),EA N sc d reps R0 RA A4 n4->Sep [En p dp none,Dk dp d,R0,own H0,af b1 (dE sc o A n m),RA] H->R14 A3 n3 m3 (Oo dp) (Oo p) (O b1) A4 n4 m4 false (i64.wrap (x14+1)) H
theorem yJ :∀ x∈iJ z6,-9223372036854775808<=x/\x<=9223372036854775807:=fun x hx=>by simp[iJ,z6]at hx;omega
theorem wL {o:Option Mn}{A:OA}{n m:Nat}{R0:As}(hr:Rg o)(hI:kz o R0 A n)(b6:Nat):By sc [⟨o,A,n,m⟩] R0 (af b6 (.row (eh.row sc ⟨o,A,n,m⟩) 33 12)) (Oo b6) 1:=by
 refine⟨rfl,by simp,fun r h=>?_,fun x hx y hy _=>?_,fun r h=>?_,fun H h=>?_⟩
 .rw[List.mem_singleton.1 h];exact hr
 .simp at hx hy;subst hx hy;exact⟨rfl,rfl,rfl,rfl,fun _ _ _ h=>h⟩
 .rw[List.mem_singleton.1 h];exact hI
 .have hc:=Cells.row h 0 12;refine zH (by omega) (fun r hr=>?_) ?_
  .simp at hr;rw[hr];rfl
  .have e:(([(⟨o,A,n,m⟩:eh)].map (eh.row sc)).flatten)=eh.row sc ⟨o,A,n,m⟩:=by simp
   rw[e];exact hc
set_option maxHeartbeats 4000000 in
theorem GF {p b3:Nat}{d:D}{c:Cn}{o:Option Mn}{pk:Int}{A:OA}{n m:Nat}{R0 RA:As}{A4:OA}{n4 m4:Nat}{a:eQ}{H:Hp}(hT:T64 H0)(hsc:sc<=100)(hmx:Mx sc 32)(hN:N<=380)(hA:Kk N sc d c o pk A n m R0 RA A4 n4)(ha:tM H0 a)(hsh:ma a)(h10:a.k≠10)
  (nA:Hc R14 A3 n3 m3 dp b1 sc H0 (N+2) x14) (nB:Hd R14 A3 n3 m3 dp b1 sc H0 (N+2) x14) (hs:Sep (rV p dp b1 b3 (gO d o pk) d R0 H0 (dE sc o A n m) RA a) H):
  ak.j37 K R14 A3 n3 m3 (Oo dp) (Oo p) (O b1) A4 n4 m4 true x14 (O b3) H:=by
 have hL:=hA.lo;have hsz:=hA.sz;have hsec:=hA.sec;have hI:kz o R0 A n:=hA.nJ.da ⟨o,A,n,m⟩ List.mem_cons_self;have upA:Kk (N+2) sc d c o pk A n m R0 RA A4 n4:=⟨hL.up (by omega),hsz,hsec,hA.pk,hA.nJ⟩;unfold ak.j37
 try simp only[HS]
 refine hs.ld 6 (v:=I a.k) rfl rfl ?_;simp only[HV];by_cases h8:a.k=8
 .exact aL h8 (nA H p d c o pk A n m R0 RA A4 n4 m4 upA (hs.re [0,1,2,3,4,5] rfl))
 refine aK h8 ?_;refine hs.ld 6 (v:=I a.k) rfl rfl ?_;simp only[HV];by_cases h9:a.k=9
 .exact aL h9 (nA H p d c o pk A n m R0 RA A4 n4 m4 upA (hs.re [0,1,2,3,4,5] rfl))
 refine aK h9 ?_;refine hs.bd 6 rfl rfl ?_
 try simp only[Array.toArray_toList]
 refine(L1 (p:=p) (dp:=dp) (a:=a) hT hL (by omega) (by rw[hsec,hsz];exact hmx) hA.pk ha hsh).use hs [0,1,3] rfl rfl ?_;rintro _ _ H ⟨e,o',w,hE,(⟨B,nn,mm,d',c',pk',W,rfl,hnw,hW,hL',hsec',hsize',hfu,hpk',rfl⟩|⟨_,_,he,hf0,d',rfl,hD,rfl⟩)⟩ hs
 .-- the power stayed
  rw[hsz]at hE;have hs:Sep [En p dp (gO d' o' pk'),Dk dp d',W,own H0,R0,af b1 (dE sc o A n m),RA,af b3 (Oq (cO a).toArray 37)] H:=hs;have hsz':d'.size=32:=hsize'.trans hsz;have hsec'':d'.sec=sc:=hsec'.trans hsec;simp only[HV]
  try simp only[HS]
  refine ae.use (DF hs 1 rfl) ?_;rw[hL'.cl.down];simp only[HV];refine hs.bd 5 rfl rfl ?_;refine hs.bd 7 rfl rfl ?_
  try simp only[Array.toArray_toList]
  subst hsec;refine(Dx (a:=a) (mm:=m) hL (by omega) hsz (by omega) hE h8 ha hsh hI).use hs [4,3] rfl rfl ?_;rintro _ _ H ⟨X,A',n',m',B',nB',mB,rfl,hI',hnB,hB',rfl⟩ hs;have hs:Sep [X,R0,own H0,En p dp (gO d' o' pk'),Dk dp d',W,af b1 (dE d.sec o A n m),RA,af b3 (Oq (cO a).toArray 37)] H:=hs;simp only[HV];refine hs.nw fun b5 H hs=>?_
  refine hs.dW 9 (y:=gq d.sec o' A' n' m') rfl rfl rfl rfl fun H hs=>?_;refine aH rfl ?_;have c1:Cells H B (ah w):=by
   obtain⟨H1,h1,hle⟩:=hs.fE 5 rfl;exact(hW H1 h1).le hle
  have c2:Cells H B' (ah w):=by
   rcases hB' with h|h
   .obtain⟨H1,h1,hle⟩:=hs.fE 0 rfl;exact(h H1 h1).le hle
   .obtain⟨H1,h1,hle⟩:=hs.fE 1 rfl;exact(h H1 h1).le hle
  have hw64:nn<=1000000000:=by
   rw[hnw];exact MC hL hE
  refine ae.use (BE B B' nn nB' mm mB w hnw hnB hw64 H c1 c2) ?_;simp only[HV];refine hs.bd 9 rfl rfl ?_;refine hs.dW 6 (y:=gq d.sec o' A' n' m') rfl rfl rfl rfl fun H hs=>?_;refine hs.bd 6 rfl rfl ?_;rw[jh];simp only[HV];refine hs.nw fun b6 H hs=>?_
  have hs:Sep ([X,R0]++[En p dp (gO d' o' pk'),Dk dp d',own H0,af b1 (dE d.sec o' A' n' m'),af b6 (.row (eh.row d.sec ⟨o',A',n',m'⟩) 33 12)]) H:=hs.re [0,1,3,4,2,6,10] rfl;have hs:=Dsk.Sep.fold (A:=fun H=>Sep [X,R0] H) hs fun H1 h1=>h1
  have hs:Sep (DJ p dp d.sec b1 b6 o' A' n' m' d' pk' (fun H=>Sep [X,R0] H) H0 (.row (eh.row d.sec ⟨o',A',n',m'⟩) 33 12)) H:=hs.re [1,2,0,3,4,5] rfl;have hI2:kz o' (fun H=>Sep [X,R0] H) A' n':=by
   rcases hI' with h|h
   .exact h.mono fun H hh=>by obtain⟨H1,h1,hle⟩:=Sep.fE hh 0 rfl;exact⟨H1,h1,hle⟩
   .exact h.mono fun H hh=>by obtain⟨H1,h1,hle⟩:=Sep.fE hh 1 rfl;exact⟨H1,h1,hle⟩
  refine NB (b:=b1) (j:=4) hL' (by omega) hsz' hs rfl fun H hs=>?_;exact nA H p d' c' o' pk' A' n' m' _ _ _ 1 1 ⟨hL',hsz',hsec'',hpk',wL (Kg hL (by omega) hE) hI2 b6⟩ hs
 .-- the power mT
  have he0:e=0:=he.resolve_left h8;subst he0;rw[hsz]at hE hD;have hs:Sep [En p dp none,Dk dp d',(fun _=>True),own H0,R0,af b1 (dE sc o A n m),RA,af b3 (Oq (cO a).toArray 37)] H:=hs;simp only[HV]
  try simp only[HS]
  refine ae.use (DF hs 1 rfl) ?_;rw[hD.down];simp only[HV];refine aH rfl (aH rfl ?_);refine(pS (p:=p) (dp:=dp) none (fun e h=>(by cases h))).use hs [0] rfl rfl ?_;rintro _ _ H ⟨rfl,rfl⟩ hs;have hs:Sep [En p dp none,Dk dp d',(fun _=>True),own H0,R0,af b1 (dE sc o A n m),RA,af b3 (Oq (cO a).toArray 37)] H:=hs;simp only[HV];refine vd uE (a:=iJ z6) (b:=iJ z6) rfl rfl yJ yJ rfl rfl ?_;rw[decide_eq_true rfl];refine bQ rfl ?_;refine hs.bd 5 rfl rfl ?_;refine hs.bd 7 rfl rfl ?_
  try simp only[Array.toArray_toList]
  rw[hsec]at hE;refine(MP (a:=a) (m:=m) hL (by omega) hsz hsec hsc hE h8 ha hsh hI).use hs [4,3] rfl rfl ?_;rintro _ _ H ⟨reps,X,A5,n5,m5,rfl,hn5,hle3,hmid,hdis,hreps,rfl⟩ hs;have hs:Sep [bH 33 12 A5 n5 m5 (reps.map (eh.row sc)).flatten,X,R0,own H0,En p dp none,Dk dp d',(fun _=>True),af b1 (dE sc o A n m),RA,af b3 (Oq (cO a).toArray 37)] H:=hs;simp only[HV];have hs:Sep ([X,R0]++[En p dp none,Dk dp d',own H0,af b1 (dE sc o A n m),bH 33 12 A5 n5 m5 (reps.map (eh.row sc)).flatten]) H:=hs.re [1,2,4,5,3,7,0] rfl;have hs:=Dsk.Sep.fold (A:=fun H=>Sep [X,R0] H) hs fun H1 h1=>h1
  refine nB H p d' reps o A n m (fun H=>Sep [X,R0] H) (bH 33 12 A5 n5 m5 (reps.map (eh.row sc)).flatten) A5 n5 m5 ⟨⟨_,?_,hmid⟩,by rw[hD.fz];omega,⟨hn5,hle3,fun r h=>(hreps r h).2,hdis,fun r h=>?_,fun H h=>?_⟩⟩ (hs.re [1,2,0,3,4,5] rfl)
  .have e:{ d' with aI:=0}=d':=by have:=hD.fz;cases d';simp at this ⊢;exact this.symm
   rw[e,<-hsec];exact hD
  .rcases(hreps r h).1 with q|q
   .exact q.mono fun H hh=>by obtain⟨H1,h1,hle⟩:=Sep.fE hh 0 rfl;exact⟨H1,h1,hle⟩
   .exact q.mono fun H hh=>by obtain⟨H1,h1,hle⟩:=Sep.fE hh 1 rfl;exact⟨H1,h1,hle⟩
  .exact zH (by omega) (fun r hr=>by obtain⟨q,_,rfl⟩:=List.mem_map.1 hr;rfl) (qB h)
set_option maxHeartbeats 4000000 in
theorem xH {p b3:Nat}{d:D}{c:Cn}{o o1:Option Mn}{A:OA}{n m:Nat}{R0 RA:As}{reps:List eh}{A4:OA}{n4 m4:Nat}{a:eQ}{e:Int}{H:Hp}(hT:T64 H0)(hsc:sc<=100)(hmx:Mx sc 32)(hN:N<=380)(hL:Lo N d c o)(hsz:d.size=32)(hsec:d.sec=sc)(hP:By sc reps R0 RA A4 n4)(hm:∃ r∈reps,r.o=o)(he:e=if(dj (32/8) o).1=0 then 11 else 0)(ha:tM H0 a)(hsh:ma a)(h10:a.k≠10)
  (nA:Hc R14 A3 n3 m3 dp b1 sc H0 (N+2) x14) (nB:Hd R14 A3 n3 m3 dp b1 sc H0 (N+2) x14) (hs:Sep (rV p dp b1 b3 (gO d o 0) d R0 H0 (dE sc o1 A n m) RA a) H):
  ak.j27 K R14 A3 n3 m3 (Oo dp) (Oo p) (O b1) A4 n4 m4 x14 (O b3) e H:=by
 have hld:∀ e',gO d o 0=some e'->e'.r.ld<4294967296:=fun e' he=>by
  cases o with
  |none=>cases he
  |some m=>cases he;have:=(hL.lp m rfl).ld;show m.r.ld<_;omega
 have hse:=EB d o 0;rw[hsz]at hse;unfold ak.j27
 try simp only[HS]
 refine ae.use (DF hs 1 rfl) ?_;rw[hL.cl.down];simp only[HV];refine(pS (p:=p) (dp:=dp) (gO d o 0) hld).use hs [0] rfl rfl ?_;rintro _ _ H ⟨rfl,rfl⟩ hs;simp only[HV];refine(IH (p:=p) (dp:=dp) (gO d o 0)).use hs [0] rfl rfl ?_;rintro _ _ H ⟨rfl,rfl⟩ hs;have hs:Sep (rV p dp b1 b3 (gO d o 0) d R0 H0 (dE sc o1 A n m) RA a) H:=hs;simp only[HV];obtain⟨hlt,hmt⟩:=wD hm;have hmem:=List.getElem_mem hlt;have hal:Alike (reps[ju o reps]'hlt).o o:=by
  obtain⟨r,hr,hro⟩:=hm;refine hP.Oa _ (List.mem_map_of_mem hmem) o ?_ hmt;rw[<- hro];exact List.mem_map_of_mem hr
 have hsup:JB (gO d o 0)=Bm o (if o=none then 0 else d.sec) (if o=none then 0 else d.size):=by
  cases o with
  |none=>rfl
  |some mm=>rfl
 have hcs:eU 12 H A4 (reps.map (eh.row sc)):=by
  obtain⟨H1,h1,hle⟩:=hs.fE 5 rfl;exact(hP.cs H1 h1).le hle
 have hn:=hP.n;have hle:=hP.le;rw[hse,hsup];refine ae.use (KT (sc:=sc) (m1:=m4) (reps:=reps) (o:=o) hn (by omega) hP.rg (Bk hL) H hcs hm) ?_;simp only[HV];refine aw (by omega) ?_;have hrow:(reps.map (eh.row sc))[ju o reps]? =some ((reps[ju o reps]'hlt).row sc):=by rw[List.getElem?_map,List.getElem?_eq_getElem hlt];rfl
 generalize hk:ju o reps=k at*;have hst:=hal.st;have hmc:=hal.mc sc (reps[k]'hlt).A (reps[k]'hlt).n (reps[k]'hlt).m;have hin:kz o R0 (reps[k]'hlt).A (reps[k]'hlt).n:=hal.da _ _ _ (hP.da _ hmem);refine eU.rd hcs hrow rfl (by rw[List.length_map];omega) (j:=0) (v:=I (dj (32/8) (reps[k]'hlt).o).1) rfl ?_;rw[hst];generalize reps[k]'hlt=r at*;simp only[HV];have j34:ak.j34 K R14 A3 n3 m3 (Oo dp) (Oo p) (O b1) A4 n4 m4 x14 (O b3) (k:Int) H:=by
  unfold ak.j34;refine eU.uG hcs hrow rfl rfl (by rw[List.length_map];omega) ?_;have er:eh.row sc r=(gq sc o r.A r.n r.m).toList:=by show(gq sc r.o r.A r.n r.m).toList=_;rw[hmc]
  rw[er];refine hs.dW 4 (y:=gq sc o r.A r.n r.m) rfl rfl rfl rfl fun H hs=>?_;refine hs.bd 4 rfl rfl ?_;rw[jh];simp only[HV];refine hs.nw fun b4 H hs=>?_
  have hs:Sep (rV p dp b1 b3 (gO d o 0) d R0 H0 (dE sc o r.A r.n r.m) (af b4 (.row (eh.row sc ⟨o,r.A,r.n,r.m⟩) 33 12)) a) H:=hs.re [0,1,2,3,4,7,6] rfl;exact GF hT hsc hmx hN ⟨hL,hsz,hsec,fun m2 e2=>by cases e2;exact Int.natCast_nonneg _,wL (Bk hL) hin b4⟩ ha hsh h10 nA nB hs
 by_cases h0:(dj (32/8) o).1=0
 .rw[if_pos h0]at he;subst he;rw[h0];exact bQ (by decide) (aT (by decide) (aH rfl j34))
 .rw[if_neg h0]at he;subst he;have hpos:(dj (32/8) o).1>0:=by
   cases o with
   |none=>exact absurd rfl h0
   |some mm=>rw[iL];have:=iz mm (32/8);omega
  rw[decide_eq_true hpos];exact bQ rfl (aH rfl j34)
set_option maxHeartbeats 4000000 in
theorem GE {p b3:Nat}{d:D}{o1:Option Mn}{A:OA}{n m:Nat}{R0 RA:As}{reps:List eh}{A4:OA}{n4 m4:Nat}{a:eQ}{H:Hp}{P:Option Mn->Prop}(hT:T64 H0)(hsc:sc<=100)(hmx:Mx sc 32)(hN:N<=370)(hD:Dd N sc 32 d P)(hPr:∀ x,P x->∃ r∈reps,r.o=x)(hP:By sc reps R0 RA A4 n4)(ha:tM H0 a)(hsh:ma a)(h10:a.k≠10)
  (nA:Hc R14 A3 n3 m3 dp b1 sc H0 (N+4) x14) (nB:Hd R14 A3 n3 m3 dp b1 sc H0 (N+4) x14) {g:Option Eg} (hs:Sep (rV p dp b1 b3 g d R0 H0 (dE sc o1 A n m) RA a) H):
  ak.j21 K R14 A3 n3 m3 (Oo dp) (O b1) A4 n4 m4 x14 (O b3) H:=by
 have hks:Cells H0 a.G (lR a.ks):=ha.ks;have hnG:a.nG=a.ks.length:=ha.nG;unfold ak.j21
 try simp only[HS]
 refine hs.ld 6 (v:=.slice a.G a.nG a.mG) rfl rfl ?_;simp only[HV];refine(yL (p:=dp) hD.ok hD.tQ hD.down a.G a.nG a.mG a.ks hnG (own H0) (fun H h=>hks.le h)).use hs [1,3] rfl rfl ?_;rintro _ _ H ⟨kk,hkk',rfl,rfl⟩ hs;simp only[HV];refine aH rfl ?_;obtain⟨c,o,hPo,hL,hsec,hsz⟩:=hD.jB (by show 0<Lay.cc ((32:Nat):Int);decide) hkk' a.ks;have hfb:(D.jB d kk a.ks).aI=0:=hD.fz;generalize D.jB d kk a.ks=d2 at*;have hs:Sep [Dk dp d2,own H0,En p dp g,R0,af b1 (dE sc o1 A n m),RA,af b3 (Oq (cO a).toArray 37)] H:=hs;refine(ui (dp:=dp)).use hs [] rfl rfl ?_;rintro _ _ H ⟨p2,rfl,rfl⟩ hs;have hs:Sep [En p2 dp none,Dk dp d2,own H0,En p dp g,R0,af b1 (dE sc o1 A n m),RA,af b3 (Oq (cO a).toArray 37)] H:=hs;simp only[HV];unfold ak.j25;refine cV rfl ?_;have hr1:=hL.rd;have hr2:=hL.wr;have hr3:=hL.sy;refine(qh (p:=p2) (dp:=dp) (g:=none) hL.cl hL.aa (by omega) (o:=o) hL.hh).use hs [0,1] rfl rfl ?_;rintro _ _ H (⟨d',rfl,hw,hc,rfl,rfl⟩|⟨d',m4,rfl,hw,hc,rfl,rfl⟩|⟨_,hcut,_⟩) hs
 .simp only[HV];have hs:Sep (rV p2 dp b1 b3 (gO d' none 0) d' R0 H0 (dE sc o1 A n m) RA a) H:=hs.re [0,1,4,2,5,6,7] rfl;exact xH hT hsc hmx (by omega) (hL.mT hw (by omega) hc) (hw.size.trans hsz) (hw.sec.trans hsec) hP (hPr _ hPo) rfl ha hsh h10 nA nB hs
 .simp only[HV];have hs:Sep (rV p2 dp b1 b3 (gO d2 (some m4) 0) d' R0 H0 (dE sc o1 A n m) RA a) H:=hs.re [0,1,4,2,5,6,7] rfl;rw[<- E7 (some m4) 0 hw.sec hw.size]at hs;refine xH hT hsc hmx (by omega) (hL.mT hw (by omega) hc) (hw.size.trans hsz) (hw.sec.trans hsec) hP (hPr _ hPo) ?_ ha hsh h10 nA nB hs;rw[iL,if_neg];have:=iz m4 (32/8);omega
 .exact(hcut.calm hfb).elim
set_option maxHeartbeats 4000000 in
theorem DH {ls:List eQ}(hT:T64 H0)(hls:ls.length=n3)(hn3:n3<=40)(hsc:sc<=100)(hmx:Mx sc 32)(hc3:eU 5 H0 A3 (ls.map cO))(hok:∀ a∈ls,tM H0 a)(hsh:∀ a∈ls,ma a):∀(t j:Nat),j+t=n3->
  (∀(H:Hp) (p:Nat) (d:D) (c:Cn) (o:Option Mn) (pk:Int) (A:OA) (n m:Nat) (R0 RA:As) (A4:OA) (n4 m4:Nat),Kk (10+4*j) sc d c o pk A n m R0 RA A4 n4->Sep [En p dp (gO d o pk),Dk dp d,R0,own H0,af b1 (dE sc o A n m),RA] H->ak.l14 (lG (.bool true) H0) (t+1) A3 n3 m3 (Oo dp) (Oo p) (O b1) A4 n4 m4 true (j:Int) H)/\
  (∀(H:Hp) (p:Nat) (d:D) (reps:List eh) (o:Option Mn) (A:OA) (n m:Nat) (R0 RA:As) (A4:OA) (n4 m4:Nat),EA (10+4*j) sc d reps R0 RA A4 n4->Sep [En p dp none,Dk dp d,R0,own H0,af b1 (dE sc o A n m),RA] H->ak.l14 (lG (.bool true) H0) (t+1) A3 n3 m3 (Oo dp) (Oo p) (O b1) A4 n4 m4 false (j:Int) H)
 |0,j,hj=>by
  refine⟨fun H p d c o pk A n m R0 RA A4 n4 m4 hA hs=>?_,fun H p d reps o A n m R0 RA A4 n4 m4 hB hs=>?_⟩
  all_goals
   unfold ak.l14;exact aw (by omega) (hs.fin 3 rfl _)
 |t+1,j,hj=>by
  obtain⟨ihA,ihB⟩:=DH hT hls hn3 hsc hmx hc3 hok hsh t (j+1) (by omega);have hjl:j<ls.length:=by omega
  have hOK:=hok _ (List.getElem_mem hjl);have hSh:=hsh _ (List.getElem_mem hjl);have hrow:(ls.map cO)[j]? =some (cO (ls[j]'hjl)):=by rw[List.getElem?_map,List.getElem?_eq_getElem hjl];rfl
  have e1:i64.wrap ((j:Int)+1)=((j+1:Nat):Int):=by rw[bu (x:=(j:Int)+1)];omega
  have hnA:Hc (ak.l14 (lG (.bool true) H0) (t+1)) A3 n3 m3 dp b1 sc H0 (10+4*j+4) (j:Int):=fun H p d c o pk A n m R0 RA A4 n4 m4 h1 h2=>by
   rw[e1];exact ihA H p d c o pk A n m R0 RA A4 n4 m4 ⟨h1.lo.up (by omega),h1.sz,h1.sec,h1.pk,h1.nJ⟩ h2
  have upB:∀{M:Nat} {d:D} {reps:List eh} {R0 RA:As} {A4:OA} {n4:Nat},M<=10+4*(j+1)->EA M sc d reps R0 RA A4 n4->EA (10+4*(j+1)) sc d reps R0 RA A4 n4:=fun{M d reps R0 RA A4 n4} hM h=>by
   obtain⟨P,hD,hP⟩:=h.dd;have q1:=hD.rd;have q2:=hD.wr;have q3:=hD.sy;exact⟨⟨P,⟨hD.ok,hD.tQ,hD.down,hD.fz,hD.sec,hD.size,hD.left.mono fun c ⟨o,h1,h2,h3⟩=>⟨o,h1,fun m hm=>by obtain⟨a1,a2,a3⟩:=h2 m hm;exact⟨a1,by omega,by omega⟩,h3⟩,by omega,by omega,by omega⟩,hP⟩,h.fz,h.nJ⟩
  have hnB:Hd (ak.l14 (lG (.bool true) H0) (t+1)) A3 n3 m3 dp b1 sc H0 (10+4*j+4) (j:Int):=fun H p d reps o A n m R0 RA A4 n4 m4 h1 h2=>by
   rw[e1];exact ihB H p d reps o A n m R0 RA A4 n4 m4 (upB (by omega) h1) h2
  have hnA2:Hc (ak.l14 (lG (.bool true) H0) (t+1)) A3 n3 m3 dp b1 sc H0 (10+4*j+2) (j:Int):=fun H p d c o pk A n m R0 RA A4 n4 m4 h1 h2=>by
   rw[e1];exact ihA H p d c o pk A n m R0 RA A4 n4 m4 ⟨h1.lo.up (by omega),h1.sz,h1.sec,h1.pk,h1.nJ⟩ h2
  have hnB2:Hd (ak.l14 (lG (.bool true) H0) (t+1)) A3 n3 m3 dp b1 sc H0 (10+4*j+2) (j:Int):=fun H p d reps o A n m R0 RA A4 n4 m4 h1 h2=>by
   rw[e1];exact ihB H p d reps o A n m R0 RA A4 n4 m4 (upB (by omega) h1) h2
  refine⟨fun H p d c o pk A n m R0 RA A4 n4 m4 hA hs=>?_,fun H p d reps o A n m R0 RA A4 n4 m4 hB hs=>?_⟩
  .-- the engine is open
   have hL:=hA.lo;unfold ak.l14;refine aC (by omega) ?_;refine eU.uG (hc3.le (hs.ow 3 rfl)) hrow rfl rfl (by rw[List.length_map];omega) ?_;generalize ls[j]'hjl=a at hOK hSh;refine hs.nw fun b3 H hs=>?_
   refine hs.dW 6 (y:=(cO a).toArray) rfl rfl rfl rfl fun H hs=>?_;have hs:Sep (rV p dp b1 b3 (gO d o pk) d R0 H0 (dE sc o A n m) RA a) H:=hs;have hx2: -9223372036854775808<=a.n/\a.n<=9223372036854775807:=hOK.n
   try simp only[HS]
   refine hs.ld 6 (v:=I a.k) rfl rfl ?_;simp only[HV];by_cases h10:a.k=10
   .refine aL h10 ?_
    try simp only[HS]
    refine hs.ld 6 (v:=I a.n) rfl rfl ?_;simp only[HV];refine(ve (p:=dp) (d:=d) a.n).use hs [1] rfl rfl ?_;rintro _ _ H ⟨rfl,rfl⟩ hs
    try simp only[HV]
    have hL2:=hL.pJ a.n.toNat (by omega);exact hnA2 H p _ c o pk A n m R0 RA A4 n4 m4 ⟨hL2.up (by omega),hA.sz,hA.sec,hA.pk,hA.nJ⟩ (hs.re [1,0,2,3,4,5] rfl)
   refine aK h10 ?_;refine hs.ld 6 (v:=I a.k) rfl rfl ?_;simp only[HV];by_cases h9:a.k=9
   .refine aL h9 ?_
    try simp only[HS]
    refine(ta (p:=dp) (d:=d)).use hs [1] rfl rfl ?_;rintro _ _ H ⟨rfl,rfl⟩ hs
    try simp only[HV]
    obtain⟨hok3,hdom3,hcl3⟩:=hL.cl.again;have hlen:=hL.lp;have q1:=hL.rd;have q2:=hL.wr;have q3:=hL.sy;have hD:Dd (10+4*j) sc 32 { d with down:=true,aI:=0} (fun x=>x=o):=⟨hok3,hdom3,rfl,rfl,hA.sec,hA.sz,(hL.cl.rS).mono fun c' h=>⟨o,rfl,fun m hm=>⟨(hlen m hm).aA,(hlen m hm).len,(hlen m hm).ld⟩,by
     have hh:=hL.hh;rw[h,<-hA.sec,<-hA.sz];exact hh⟩,q1,q2,q3⟩
    exact GE hT hsc hmx (by omega) hD (fun x hx=>⟨⟨o,A,n,m⟩,List.mem_cons_self,hx.symm⟩) hA.nJ hOK hSh h10 hnA hnB (g:=gO d o pk) (hs.re [1,0,2,3,4,5,6] rfl)
   refine aK h9 ?_
   try simp only[HS]
   refine ae.use (DF hs 1 rfl) ?_;rw[hL.cl.down];simp only[HV];unfold ak.j25;refine bQ rfl ?_
   try simp only[HS]
   refine hs.ld 6 (v:=I a.k) rfl rfl ?_;simp only[HV];by_cases h8:a.k=8
   .refine aL h8 ?_;have q1:=hL.rd;have q2:=hL.wr;have q3:=hL.sy;refine(qh (p:=p) (dp:=dp) (g:=gO d o pk) hL.cl hL.aa (by omega) (o:=o) hL.hh).use hs [0,1] rfl rfl ?_;rintro _ _ H (⟨d',rfl,hw,hc,rfl,rfl⟩|⟨d',m5,rfl,hw,hc,rfl,rfl⟩|⟨d',hcut,_,hleft,rfl,rfl⟩) hs
    .simp only[HV];have hs:Sep (rV p dp b1 b3 (gO d' none 0) d' R0 H0 (dE sc none A n m) RA a) H:=hs;exact xH hT hsc hmx (by omega) (hL.mT hw (by omega) hc) (hw.size.trans hA.sz) (hw.sec.trans hA.sec) hA.nJ ⟨_,List.mem_cons_self,rfl⟩ rfl hOK hSh h10 (fun H p d c o pk A n m R0 RA A4 n4 m4 h1 h2=>hnA H p d c o pk A n m R0 RA A4 n4 m4 ⟨h1.lo.up (by omega),h1.sz,h1.sec,h1.pk,h1.nJ⟩ h2) hnB hs
    .simp only[HV];have hs:Sep (rV p dp b1 b3 (gO d (some m5) 0) d' R0 H0 (dE sc (some m5) A n m) RA a) H:=hs;rw[<- E7 (some m5) 0 hw.sec hw.size]at hs;refine xH hT hsc hmx (by omega) (hL.mT hw (by omega) hc) (hw.size.trans hA.sz) (hw.sec.trans hA.sec) hA.nJ ⟨_,List.mem_cons_self,rfl⟩ ?_ hOK hSh h10 (fun H p d c o pk A n m R0 RA A4 n4 m4 h1 h2=>hnA H p d c o pk A n m R0 RA A4 n4 m4 ⟨h1.lo.up (by omega),h1.sz,h1.sec,h1.pk,h1.nJ⟩ h2) hnB hs;rw[iL,if_neg];have:=iz m5 (32/8);omega
    .simp only[HV];have hlen:=hL.lp;have hD:Dd (10+4*j+2) d.sec d.size d' (fun x=>x=o):=hL.cut hcut (by omega) (hleft.mono fun c' h=>⟨o,rfl,fun m hm=>⟨(hlen m hm).aA,by have:=(hlen m hm).len;omega,by have:=(hlen m hm).ld;omega⟩,by rw[h];exact hL.hh⟩);rw[hA.sec,hA.sz]at hD;have hs:Sep (rV p dp b1 b3 none d' R0 H0 (dE sc o A n m) RA a) H:=hs;unfold ak.j27
     try simp only[HS]
     refine ae.use (DF hs 1 rfl) ?_;rw[hD.down];simp only[HV];refine aH rfl ?_;refine(pS (p:=p) (dp:=dp) none (fun e h=>(by cases h))).use hs [0] rfl rfl ?_;rintro _ _ H ⟨rfl,rfl⟩ hs;have hs:Sep (rV p dp b1 b3 none d' R0 H0 (dE sc o A n m) RA a) H:=hs;simp only[HV];refine vd uE (a:=iJ z6) (b:=iJ z6) rfl rfl yJ yJ rfl rfl ?_;rw[decide_eq_true rfl];refine bQ rfl ?_;have e:{ d' with aI:=0}=d':=by have:=hD.fz;cases d';simp at this ⊢;exact this.symm
     exact hnB2 H p d' [⟨o,A,n,m⟩] o A n m R0 RA A4 n4 m4 ⟨⟨fun x=>x=o,by rw[e];exact hD,fun x hx=>⟨_,List.mem_cons_self,Eq.symm hx⟩⟩,by rw[hD.fz];omega,hA.nJ⟩ (hs.re [0,1,2,3,4,5] rfl)
   .refine aK h8 ?_;exact GF hT hsc hmx (by omega) hA hOK hSh h10 hnA2 hnB2 hs
  .-- the power is gone
   obtain⟨P,hD,hPr⟩:=hB.dd;have hdn:=hB.down;unfold ak.l14;refine aC (by omega) ?_;refine eU.uG (hc3.le (hs.ow 3 rfl)) hrow rfl rfl (by rw[List.length_map];omega) ?_;generalize ls[j]'hjl=a at hOK hSh;refine hs.nw fun b3 H hs=>?_
   refine hs.dW 6 (y:=(cO a).toArray) rfl rfl rfl rfl fun H hs=>?_;have hs:Sep (rV p dp b1 b3 none d R0 H0 (dE sc o A n m) RA a) H:=hs;have hx2: -9223372036854775808<=a.n/\a.n<=9223372036854775807:=hOK.n;have rS:∀ H,a.k≠10->Sep (rV p dp b1 b3 none d R0 H0 (dE sc o A n m) RA a) H->ae prog 25 #[.pointer (some ⟨dp,7,none⟩)] H fun v H=>ak.j21 (lG (.bool true) H0) (ak.l14 (lG (.bool true) H0) (t+1)) A3 n3 m3 (Oo dp) (O b1) A4 n4 m4 (j:Int) (O b3) H:=fun H h10 hs=>by
    refine(ta (p:=dp) (d:=d)).use hs [1] rfl rfl ?_;rintro _ _ H ⟨rfl,rfl⟩ hs;have e:{ d with down:=true,aI:=0}={ d with aI:=0}:=by cases d;simp at hdn ⊢;exact hdn
    rw[e]at hs;exact GE hT hsc hmx (by omega) hD hPr hB.nJ hOK hSh h10 hnA hnB (g:=none) (hs.re [1,0,2,3,4,5,6] rfl)
   try simp only[HS]
   refine hs.ld 6 (v:=I a.k) rfl rfl ?_;simp only[HV];by_cases h10:a.k=10
   .refine aL h10 ?_
    try simp only[HS]
    refine hs.ld 6 (v:=I a.n) rfl rfl ?_;simp only[HV];refine(ve (p:=dp) (d:=d) a.n).use hs [1] rfl rfl ?_;rintro _ _ H ⟨rfl,rfl⟩ hs
    try simp only[HV]
    exact hnB2 H p _ reps o A n m R0 RA A4 n4 m4 (by
     refine⟨⟨P,?_,hPr⟩,by show a.n.toNat<=_;omega,hB.nJ⟩;have q1:=hD.rd;have q2:=hD.wr;have q3:=hD.sy;exact⟨hD.ok,hD.tQ,hD.down,rfl,hD.sec,hD.size,hD.left.mono fun c ⟨o,h1,h2,h3⟩=>⟨o,h1,fun m hm=>by obtain⟨a1,a2,a3⟩:=h2 m hm;exact⟨a1,by omega,by omega⟩,h3⟩,Nat.le_trans q1 (by omega),Nat.le_trans q2 (by omega),Nat.le_trans q3 (by omega)⟩) (hs.re [1,0,2,3,4,5] rfl)
   refine aK h10 ?_;refine hs.ld 6 (v:=I a.k) rfl rfl ?_;simp only[HV];by_cases h9:a.k=9
   .refine aL h9 ?_
    try simp only[HS]
    exact rS H h10 hs
   refine aK h9 ?_
   try simp only[HS]
   refine ae.use (DF hs 1 rfl) ?_;rw[hdn];simp only[HV]
   try simp only[HS]
   exact rS H h10 hs
end
theorem EngineCrashes_ok (x:Nat)(hx:x<256)(A2:OA)(n2 m2:Nat)(ls:List eQ)(hls:ls.length=n2)(H:Hp)(hT:T64 H)(hc:eU 5 H A2 (ls.map cO))(hok:∀ a∈ls,tM H a):
  ae prog 4 #[.int .u8 (x:Int),.slice A2 n2 m2] H (RetE (.bool true) H):=by
 apply ae.ret;apply ak.ok;unfold ak;refine ae.use (EV H hT) ?_;simp only[HV];refine ae.mono (L3 A2 n2 m2 ls hls H hc) ?_;rintro _ H' ⟨hH,y,rfl,hfew⟩;rw[hH];clear hH H';simp only[HV];by_cases hy:y=0
 rotate_left
 .exact aT hy ((Sep.start H).fin 0 rfl _)
 refine aH hy ?_;obtain⟨h40,hsh⟩:=hfew hy;have e1:i64.wrap ((13:Int)+Int.tmod (i64.wrap (x:Int)) 48)=((13+x%48:Nat):Int):=by
  rw[ed (n:=x),show Int.tmod (x:Int) 48=((x%48:Nat):Int)from rfl,bu];omega
 rw[e1];obtain⟨sc,hsc⟩:∃ sc,sc=13+x%48:=⟨_,rfl⟩;rw[<- hsc];refine⟨by decide,by simp,?_⟩;have hs:=Sep.start H;refine(Dsk.jH sc 32 (by omega) (by decide) (by omega)).use hs [] rfl rfl ?_;rintro _ _ H1 ⟨dp,rfl,rfl⟩ hs;simp only[HV];refine(ui (dp:=dp)).use hs [] rfl rfl ?_;rintro _ _ H1 ⟨p,rfl,rfl⟩ hs;simp only[HV];refine bQ rfl (bQ rfl ?_);refine ae.use (Dh sc H1) ?_;simp only[HV];refine hs.nw fun b1 H1 hs=>?_
 refine hs.dW 3 (y:=gq sc none .none 0 0) rfl rfl rfl rfl fun H1 hs=>?_
 refine hs.bd 3 rfl rfl ?_;rw[jh];simp only[HV];refine hs.nw fun b2 H1 hs=>?_
 have hs:Sep [En p dp none,Dk dp (D.fresh sc 32),own H,af b1 (dE sc none .none 0 0),af b2 (.row (eh.row sc ⟨none,.none,0,0⟩) 33 12)] H1:=hs;have hs:=(Sep.unit (X:=fun _=>True) hs trivial).re [1,2,0,3,4,5] rfl;have hcl:=Clean.fresh (sec:=sc) (size:=32) (by omega) (by decide) (by omega);refine⟨n2+1,?_⟩;refine(DH (sc:=sc) hT hls h40 (by omega) (NX (by omega)) hc hok hsh n2 0 (by omega)).1 H1 p (D.fresh sc 32) _ none 0 .none 0 0 (fun _=>True) _ _ 1 1 ⟨⟨hcl,by show 0<Lay.cc ((32:Nat):Int);decide,Nat.zero_le _,Nat.zero_le _,Nat.zero_le _,rfl,fun m e=>(by cases e)⟩,rfl,rfl,fun m e=>(by cases e),wL Ei (fun m e=>(by cases e)) b2⟩ hs
end Eng
end Go.Proofs.YtlgnlghmbcpmhaaGreatDoor
