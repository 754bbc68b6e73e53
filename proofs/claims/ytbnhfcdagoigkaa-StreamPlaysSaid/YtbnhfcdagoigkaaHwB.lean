/- The frame of the proofs, second part: operations over a view. -/
import Derived.Test.YtbnhfcdagoigkaaHwA
import Derived.Deep.Quiet
import Derived.Deep.LoopGhost
set_option maxRecDepth 100000
set_option linter.unusedSimpArgs false
set_option linter.unusedVariables false
set_option linter.unnecessarySimpa false
set_option linter.unusedSectionVars false
namespace Go.Hw
open Go

def HCalls (P : Program) (f : FuncId) (args : Array Value) (H : Hp) (R : Value → Hp → Prop) : Prop :=
  ∀ w, Fits H w → Calls P f args w fun e w' => ∃ v H', e = .returned v ∧ R v H' ∧ At H w H' w'

theorem HCalls.mono {P : Program} {f : FuncId} {args : Array Value} {H : Hp} {R R' : Value → Hp → Prop} (h : HCalls P f args H R) (k : ∀ v H', R v H' → R' v H') : HCalls P f args H R' :=
  fun w hw => (h w hw).mono fun _ _ ⟨v, H', e, r, a⟩ => ⟨v, H', e, k v H' r, a⟩

/-- What was known ahead may be forgotten. -/
theorem HCalls.forget {P : Program} {f : FuncId} {args : Array Value} {H : Hp} {R : Value → Hp → Prop} (h : HCalls P f args H fun v H' => ∃ H'', H''.le H' ∧ R v H'') : HCalls P f args H R :=
  fun w hw => (h w hw).mono fun _ _ ⟨v, _, e, ⟨H'', l, r⟩, a⟩ => ⟨v, H'', e, r, a.weaken l⟩

def QCall (P : Program) (f : FuncId) (args : Array Value) (H : Hp) (K : Value → Prop) : Prop := ∃ v, K v ∧ HCalls P f args H fun v' H' => v' = v ∧ H.le H'

/-! ## What is known of a frame -/

abbrev Env := List (Nat × Value)
def Env.get? : Env → Nat → Option Value
  | [], _ => none
  | (t', v) :: r, t => match Nat.beq t t' with | true => some v | false => Env.get? r t

def Env.ev (E : Env) : Operand → Option Value
  | .tmp t => E.get? t
  | .const v => some v
  | .global g => some (.pointer (some ⟨g, 0, none⟩))
  | .func f => some (.func (.func f) #[] #[])

def Env.at (E : Env) (x : Operand) : Value := match E.ev x with | some v => v | none => undef

def Agrees (E : Env) (n : Nat) (a : Act) : Prop := a.tmps.size = n ∧ ∀ t v, E.get? t = some v → a.tmps.getD t undef = v

theorem Agrees.weaken {E E' : Env} {n : Nat} {a : Act} (h : Agrees E n a) (k : ∀ t v, E'.get? t = some v → E.get? t = some v) : Agrees E' n a :=
  ⟨h.1, fun t v ht => h.2 t v (k t v ht)⟩

theorem Agrees.ev {E : Env} {n : Nat} {a : Act} {x : Operand} {v : Value} (h : Agrees E n a) (hx : E.ev x = some v) : a.eval x = v := by
  cases x with
  | tmp t => exact h.2 t v hx
  | const c => simpa [Env.ev, Act.eval] using hx
  | global g => simpa [Env.ev, Act.eval] using hx
  | func f => simpa [Env.ev, Act.eval] using hx

theorem Agrees.put {E : Env} {n d : Nat} {a : Act} (h : Agrees E n a) (hd : d < n) (v : Value) : Agrees ((d, v) :: E) n (a.put (some d) v) := by
  refine ⟨by simp [Act.put, h.1], fun t u ht => ?_⟩
  unfold Env.get? at ht
  have hsz : d < a.tmps.size := by rw [h.1]; exact hd
  split at ht
  · rename_i hb
    cases ht
    obtain rfl := Nat.eq_of_beq_eq_true hb
    simp [Act.put, hsz]
  · rename_i hb
    have hne : t ≠ d := fun e => by rw [e, Nat.beq_refl] at hb; cases hb
    have := h.2 t u ht
    simp only [Act.put]
    rw [← this]
    simp only [Array.getD_eq_getD_getElem?]
    rw [Array.getElem?_setIfInBounds_ne (Ne.symm hne)]

theorem Agrees.defers {E : Env} {n : Nat} {a : Act} (h : Agrees E n a) (D : List Deferred) : Agrees E n { a with defers := D } := h

def Put (n : Nat) (dst : Option Tmp) (v : Value) (E : Env) (K : Env → Prop) : Prop :=
  match dst with
  | some d => match Nat.blt d n with | true => K ((d, v) :: E) | false => False
  | none => K E

theorem Put.sound {n : Nat} {dst : Option Tmp} {v : Value} {E : Env} {K : Env → Prop} {a : Act} (h : Put n dst v E K) (ha : Agrees E n a) : ∃ E', K E' ∧ Agrees E' n (a.put dst v) := by
  unfold Put at h
  split at h
  · rename_i d
    split at h
    · rename_i hb
      exact ⟨_, h, ha.put (by have := hb; simp [Nat.blt] at this; omega) v⟩
    · exact h.elim
  · exact ⟨E, h, ha⟩

/-! ## Values of a known type -/

inductive Lf where
  | int (k : IntKind) | bool | str | ptr | sl | map | any

def Dt (l : Lf) (v : Value) (K : Value → Prop) : Prop :=
  match l with
  | .int k => DI k v fun n => K (.int k n)
  | .bool => DB v fun b => K (.bool b)
  | .str => DS v fun s => K (.string s)
  | .ptr => DP v fun p => K (.pointer p)
  | .sl => DSl v fun a n c => K (.slice a n c)
  | .map => DM v fun r => K (.map r)
  | .any => K v

theorem Dt.out {l : Lf} {v : Value} {K : Value → Prop} (h : Dt l v K) : K v := by
  cases l <;> cases v <;> first | exact h | exact h.elim | skip
  rename_i k' k2 n'
  obtain ⟨n, hn, h⟩ := DI.out (show DI k' (.int k2 n') (fun n => K (.int k' n)) from h)
  rw [hn]; exact h

def leafs (P : Program) : Nat → TypeId → List Lf
  | 0, _ => [.any]
  | f + 1, t =>
    match P.underlying t with
    | some (.int k) => [.int k]
    | some .bool => [.bool]
    | some .string => [.str]
    | some (.pointer _) => [.ptr]
    | some (.slice _) => [.sl]
    | some (.map ..) => [.map]
    | some (.struct fs) => fs.toList.flatMap fun x => leafs P f x.type
    | some (.array n e) => (List.replicate n (leafs P f e)).flatten
    | _ => [.any]

def DCons (l : List Value) (K : Value → List Value → Prop) : Prop := match l with | v :: r => K v r | [] => False
def DNil (l : List Value) (K : Prop) : Prop := match l with | [] => K | _ => False

def DLs : List Lf → List Value → (List Value → Prop) → Prop
  | [], vs, K => DNil vs (K [])
  | l :: ls, vs, K => DCons vs fun v r => Dt l v fun v' => DLs ls r fun vs' => K (v' :: vs')

theorem DLs.out : ∀ {ls : List Lf} {vs : List Value} {K : List Value → Prop}, DLs ls vs K → K vs
  | [], [], _, h => h
  | _ :: ls, v :: vs, K, h => DLs.out (K := fun vs' => K (v :: vs')) (Dt.out (K := fun v' => DLs ls vs fun vs' => K (v' :: vs')) h)
  | [], _ :: _, _, h => h.elim
  | _ :: _, [], _, h => h.elim

def DA (v : Value) (K : Array Value → Prop) : Prop := match v with | .agg cs => K cs | _ => False
def DTup (v : Value) (K : List Value → Prop) : Prop := match v with | .tuple vs => K vs.toList | _ => False

def DT (P : Program) (t : TypeId) (v : Value) (K : Value → Prop) : Prop :=
  match P.underlying t with
  | some (.struct _) => DA v fun cs => K (.agg cs)
  | some (.array ..) => DA v fun cs => K (.agg cs)
  | some (.int k) => DI k v fun n => K (.int k n)
  | some .bool => DB v fun b => K (.bool b)
  | some .string => DS v fun s => K (.string s)
  | some (.pointer _) => DP v fun p => K (.pointer p)
  | some (.slice _) => DSl v fun a n c => K (.slice a n c)
  | some (.map ..) => DM v fun r => K (.map r)
  | _ => K v

theorem DA.out {v : Value} {K : Array Value → Prop} (h : DA v K) : ∃ cs, v = .agg cs ∧ K cs := by
  cases v <;> first | exact h.elim | exact ⟨_, rfl, h⟩

theorem DT.out {P : Program} {t : TypeId} {v : Value} {K : Value → Prop} (h : DT P t v K) : K v := by
  unfold DT at h
  split at h
  · obtain ⟨cs, rfl, h⟩ := DA.out h
    exact h
  · obtain ⟨cs, rfl, h⟩ := DA.out h
    exact h
  · exact Dt.out (l := .int _) h
  · exact Dt.out (l := .bool) h
  · exact Dt.out (l := .str) h
  · exact Dt.out (l := .ptr) h
  · exact Dt.out (l := .sl) h
  · exact Dt.out (l := .map) h
  · exact h

def DTs (P : Program) : List TypeId → List Value → (List Value → Prop) → Prop
  | [], vs, K => DNil vs (K [])
  | t :: ts, vs, K => DCons vs fun v r => DT P t v fun v' => DTs P ts r fun vs' => K (v' :: vs')

theorem DTs.out {P : Program} : ∀ {ts : List TypeId} {vs : List Value} {K : List Value → Prop}, DTs P ts vs K → K vs
  | [], [], _, h => h
  | _ :: ts, v :: vs, K, h => DTs.out (K := fun vs' => K (v :: vs')) (DT.out (K := fun v' => DTs P ts vs fun vs' => K (v' :: vs')) h)
  | [], _ :: _, _, h => h.elim
  | _ :: _, [], _, h => h.elim

/-- A call's result, of known types. -/
def DR (P : Program) (ts : List TypeId) (v : Value) (K : Value → Prop) : Prop :=
  match ts with
  | [] => K v
  | [t] => DT P t v K
  | ts => DTup v fun vs => DTs P ts vs fun l => K (.tuple l.toArray)

theorem DR.out {P : Program} {ts : List TypeId} {v : Value} {K : Value → Prop} (h : DR P ts v K) : K v := by
  unfold DR at h
  split at h
  · exact h
  · exact DT.out h
  · cases v <;> first | exact h.elim | skip
    simpa using DTs.out h

/-! ## Operations that yield a value and leave memory alone -/

def pickV (c : Bool) (x y : Value) : Value :=
  match x, y with
  | .bool a, .bool b => .bool (bif c then a else b)
  | _, _ => bif c then x else y

theorem pickV_eq (c : Bool) (x y : Value) : pickV c x y = if c then x else y := by
  unfold pickV; split <;> cases c <;> simp

def bAnd (k : IntKind) (a b : Int) : Int := k.wrap ((BitVec.ofInt k.bits a &&& BitVec.ofInt k.bits b).toNat : Int)
def bOr (k : IntKind) (a b : Int) : Int := k.wrap ((BitVec.ofInt k.bits a ||| BitVec.ofInt k.bits b).toNat : Int)
def bXor (k : IntKind) (a b : Int) : Int := k.wrap ((BitVec.ofInt k.bits a ^^^ BitVec.ofInt k.bits b).toNat : Int)
def bAndNot (k : IntKind) (a b : Int) : Int := k.wrap ((BitVec.ofInt k.bits a &&& ~~~ BitVec.ofInt k.bits b).toNat : Int)
def shlI (k : IntKind) (x y : Int) : Int := k.wrap (x * 2 ^ (min y.toNat k.bits))
def shrI (k : IntKind) (x y : Int) : Int := x.fdiv (2 ^ (min y.toNat k.bits))
def slA (a : Option Addr) (m l size : Nat) : Option Addr := if m = l then a else a.map (·.add (l * size))

/-- An equality of which a proof tells the answer. -/
def EqV (P : Program) (op : BinOp) (t : TypeId) (x y : Value) (K : Bool → Prop) : Prop :=
  ∃ b : Bool, K b ∧ ∀ (xo yo : Operand) (w : World), (do eqGuard op t xo yo x y; binOp op t x y : Sem Value).run P w = .ok (.bool b) w

def isPtr (P : Program) (t : TypeId) : Bool := match P.underlying t with | some (.pointer _) => true | _ => false
def isSl (P : Program) (t : TypeId) : Bool := match P.underlying t with | some (.slice _) => true | _ => false

def valueOf (K : Value → Prop) : Next → Prop
  | .value v => K v
  | _ => False

def opBin (P : Program) (op : BinOp) (t : TypeId) (x y : Value) (gen : Prop) (K : Value → Prop) : Prop :=
  match op, x, y with
  | .quo, .int k a, .int k' b => b ≠ 0 ∧ k = k' ∧ K (.int k (k.wrap (a.tdiv b)))
  | .rem, .int k a, .int k' b => b ≠ 0 ∧ k = k' ∧ K (.int k (a.tmod b))
  | .shl, .int k a, .int _ b => 0 ≤ b ∧ K (.int k (shlI k a b))
  | .shr, .int k a, .int _ b => 0 ≤ b ∧ K (.int k (shrI k a b))
  | .add, .string a, .string b => a.size + b.size ≤ 4611686018427387904 ∧ K (.string (a ++ b))
  | .eql, .pointer p, .pointer q => match q with | none => BIf (isPtr P t) (K (.bool p.isNone)) False | some _ => EqV P op t x y fun b => K (.bool b)
  | .neq, .pointer p, .pointer q => match q with | none => BIf (isPtr P t) (K (.bool (!p.isNone))) False | some _ => EqV P op t x y fun b => K (.bool b)
  | .eql, .slice a _ _, .slice b _ _ => match b with | none => BIf (isSl P t) (K (.bool a.isNone)) False | some _ => False
  | .neq, .slice a _ _, .slice b _ _ => match b with | none => BIf (isSl P t) (K (.bool (!a.isNone))) False | some _ => False
  | .eql, .agg _, .agg _ => EqV P op t x y fun b => K (.bool b)
  | .neq, .agg _, .agg _ => EqV P op t x y fun b => K (.bool b)
  | _, _, _ => gen

def ixI (i : Int) (len : Nat) (K : Prop) : Prop := 0 ≤ i ∧ i < len ∧ K
def ixV (cs : Array Value) (i : Nat) (K : Value → Prop) : Prop := match cs[i]? with | some v => K v | none => False
def ixB (s : ByteArray) (i : Nat) (K : Int → Prop) : Prop := match s[i]? with | some b => K (b.toNat : Int) | none => False

/-- Bounds of a slice expression. -/
def slB (len cap : Nat) (lo hi : Option Int) (K : Nat → Nat → Prop) : Prop :=
  match hi with
  | some h => 0 ≤ h ∧ h ≤ cap ∧ (match lo with | some l => 0 ≤ l ∧ l ≤ (h.toNat : Int) ∧ K l.toNat h.toNat | none => K 0 h.toNat)
  | none => match lo with | some l => 0 ≤ l ∧ l ≤ (len : Int) ∧ K l.toNat len | none => K 0 len

def optI : Option Value → Option (Option Int)
  | none => some none
  | some (.int _ n) => some (some n)
  | some _ => none

def opSlice (P : Program) (t : TypeId) (x : Value) (lo hi mx : Option Value) (K : Value → Prop) : Prop :=
  match mx, optI lo, optI hi with
  | none, some lo, some hi =>
    match P.underlying t, x with
    | some .string, .string s => slB s.size s.size lo hi fun l h => K (.string (s.extract l h))
    | some (.slice e), .slice a len cap => match P.info? e with
      | some i => slB len cap lo hi fun l h => K (.slice (slA a cap l i.size) (h - l) (cap - l))
      | none => False
    | some (.array n e), .pointer p => match P.info? e with
      | some i => NN p fun a => slB n n lo hi fun l h => K (.slice (slA (some a) n l i.size) (h - l) (n - l))
      | none => False
    | _, _ => False
  | _, _, _ => False

/-- The bytes that cells hold. -/
def bytesAt (H : Hp) (a : Addr) : List UInt8 → Nat → Prop
  | [], _ => True
  | b :: l, i => H.cell? (a.add i) = some (.int .u8 b.toNat) ∧ bytesAt H a l (i + 1)

def BsK (H : Hp) (a : Option Addr) (n : Nat) (K : ByteArray → Prop) : Prop :=
  ∃ s : ByteArray, K s ∧ s.size = n ∧ match a with | none => n = 0 | some ad => bytesAt H ad s.data.toList 0

/-- A read of which a proof tells the answer. -/
def SemV (P : Program) (s : Sem Value) (H : Hp) (K : Value → Prop) : Prop := ∃ v, K v ∧ ∀ w, Fits H w → s.run P w = .ok v w

def Ex (v : Value) (i : Nat) (K : Value → Prop) : Prop := match v with | .tuple vs => (match vs[i]? with | some u => K u | none => False) | _ => False

/-- A look-up's answer. -/
def DLk (P : Program) (e : TypeId) (ok : Bool) (v : Value) (K : Value → Prop) : Prop :=
  match ok with
  | true => DTup v fun l => DCons l fun v1 l1 => DT P e v1 fun v1 => DCons l1 fun v2 l2 => DB v2 fun b => DNil l2 (K (.tuple #[v1, .bool b]))
  | false => DT P e v K

theorem DLk.out {P : Program} {e : TypeId} {ok : Bool} {v : Value} {K : Value → Prop} (h : DLk P e ok v K) : K v := by
  unfold DLk at h
  split at h
  · cases v <;> first | exact h.elim | skip
    rename_i vs
    obtain ⟨vs⟩ := vs
    simp only [DTup, DCons] at h
    match vs, h with
    | [], h => exact h.elim
    | [a], h =>
      have h1 := DT.out h
      exact h1.elim
    | a :: b :: r, h =>
      have h1 := DT.out h
      simp only at h1
      have h2 : DB b fun c => DNil r (K (.tuple #[a, .bool c])) := h1
      cases b <;> first | exact h2.elim | skip
      match r, h2 with
      | [], h2 => exact h2
      | _ :: _, h2 => exact h2.elim
  · exact h.out

def Hp.cells? (H : Hp) (a : Addr) : (i n : Nat) → Option (List Value)
  | _, 0 => some []
  | i, n + 1 => match H.cell? (a.add i) with
    | some v => match H.cells? a (i + 1) n with | some l => some (v :: l) | none => none
    | none => none

def LdA (H : Hp) (a : Addr) (n : Nat) (K : List Value → Prop) : Prop := match H.cells? a 0 n with | some l => K l | none => False

/-- A variable's value. -/
def LdT (P : Program) (t : TypeId) (a : Addr) (H : Hp) (K : Value → Prop) : Prop :=
  match P.underlying t with
  | some (.array ..) => match P.info? t with
    | some i => LdA H a i.size fun l => K (.agg l.toArray)
    | none => False
  | some (.struct _) => match P.info? t with
    | some i => LdA H a i.size fun l => K (.agg l.toArray)
    | none => False
  | _ => rv P (loadVar t a) H fun v => DT P t v K

/-- A part that is a struct or an array: its cells are told one by one. -/
def Xp (P : Program) (t : TypeId) (v : Value) (K : Value → Prop) : Prop :=
  match P.underlying t, v with
  | some (.struct _), .agg cs => DLs (leafs P 9 t) cs.toList fun l => K (.agg l.toArray)
  | some (.array ..), .agg cs => DLs (leafs P 9 t) cs.toList fun l => K (.agg l.toArray)
  | _, _ => K v

theorem Xp.out {P : Program} {t : TypeId} {v : Value} {K : Value → Prop} (h : Xp P t v K) : K v := by
  unfold Xp at h
  split at h
  · simpa using DLs.out h
  · simpa using DLs.out h
  · exact h

def XpParts (P : Program) (ty : Nat → TypeId) : List (Nat × Value) → (List (Nat × Value) → Prop) → Prop
  | [], K => K []
  | (i, v) :: r, K => Xp P (ty i) v fun v' => XpParts P ty r fun r' => K ((i, v') :: r')

theorem XpParts.out {P : Program} {ty : Nat → TypeId} : ∀ {ps : List (Nat × Value)} {K : List (Nat × Value) → Prop}, XpParts P ty ps K → K ps
  | [], _, h => h
  | (i, v) :: r, K, h => XpParts.out (K := fun r' => K ((i, v) :: r')) (Xp.out (K := fun v' => XpParts P ty r fun r' => K ((i, v') :: r')) h)

def partTy (P : Program) (t : TypeId) (i : Nat) : TypeId :=
  match P.underlying t with
  | some (.struct fs) => match fs[i]? with | some f => f.type | none => 0
  | some (.array _ e) => e
  | some (.slice e) => e
  | _ => 0

def opV (P : Program) (o : Oper) (ρ : Operand → Value) (H : Hp) (K : Value → Prop) : Prop :=
  match o.op with
  | .move x => K (ρ x)
  | .assign x => K (ρ x)
  | .pick c a b => match ρ c with | .bool c => K (pickV c (ρ a) (ρ b)) | _ => False
  | .load t x => match ρ x with
    | .pointer p => NN p fun a => LdT P t a H K
    | _ => False
  | .extract t i => Ex (ρ t) i fun u => DT P o.type u K
  | .lookup t x k ok => match P.underlying t with
    | some (.map _ e) => SemV P (Instr.lookup t (ρ x) (ρ k) ok) H fun v => DLk P e ok v K
    | _ => False
  | .nilCheck x => match ρ x with
    | .pointer p => NN p fun a => K (.pointer (some a))
    | .func (.func g) f c => K (.func (.func g) f c)
    | _ => False
  | .binOp op t x y _ => opBin P op t (ρ x) (ρ y) (rv P (execOp ρ o) H (valueOf K)) K
  | .indexAddr t x ix => match ρ ix with
    | .int _ i => match P.underlying t, ρ x with
      | some (.slice e), .slice a len _ => match P.info? e with
        | some j => ixI i len (NN a fun a => K (.pointer (some (a.add (i.toNat * j.size)))))
        | none => False
      | some (.array len e), .pointer p => match P.info? e with
        | some j => NN p fun a => ixI i len (K (.pointer (some (a.add (i.toNat * j.size)))))
        | none => False
      | _, _ => False
    | _ => False
  | .index t x ix => match ρ ix with
    | .int _ i => match P.underlying t, ρ x with
      | some .string, .string s => 0 ≤ i ∧ ixB s i.toNat fun b => K (.int .u8 b)
      | some (.array len e), .agg cs => match P.underlying e, P.info? e with
        | some (.struct _), some j => ixI i len (K (.agg (cs.extract (i.toNat * j.size) (i.toNat * j.size + j.size))))
        | some (.array ..), some j => ixI i len (K (.agg (cs.extract (i.toNat * j.size) (i.toNat * j.size + j.size))))
        | some _, some j => ixI i len (ixV cs (i.toNat * j.size) fun v => DT P e v K)
        | _, _ => False
      | _, _ => False
    | _ => False
  | .slice t x lo hi mx => opSlice P t (ρ x) (lo.map ρ) (hi.map ρ) (mx.map ρ) K
  | .field t x f => match P.underlying t, ρ x with
    | some (.struct fs), .agg cs => match fs[f]? with
      | some fd => match P.underlying fd.type, P.info? fd.type with
        | some (.struct _), some j => K (.agg (cs.extract fd.offset (fd.offset + j.size)))
        | some (.array ..), some j => K (.agg (cs.extract fd.offset (fd.offset + j.size)))
        | some _, some _ => ixV cs fd.offset fun v => DT P fd.type v K
        | _, _ => False
      | none => False
    | _, _ => False
  | .build t parts => XpParts P (partTy P t) (parts.toList.map fun (i, x) => (i, ρ x)) fun ps => rv P (Instr.build t ps.toArray) H K
  | .convert s d x => match P.underlying s, P.underlying d, ρ x with
    | some (.slice e), some .string, .slice a n _ => match P.underlying e with
      | some (.int .u8) => BsK H a n fun s => K (.string s)
      | _ => False
    | _, _, _ => rv P (execOp ρ o) H (valueOf K)
  | _ => rv P (execOp ρ o) H (valueOf K)

def isV : Oper → Bool := fun o => match o.op with
  | .move _ | .assign _ | .pick .. | .load .. | .nilCheck _ | .binOp .. | .unOp .. | .indexAddr .. | .index .. | .slice .. | .field .. | .fieldAddr .. | .extract .. | .build .. | .makeFunc .. | .lookup .. => true
  | .call { callee := .builtin .len, .. } | .call { callee := .builtin .min, .. } | .call { callee := .builtin .max, .. } => true
  | _ => false

theorem bytes_run {P : Program} {H : Hp} {w : World} (hw : Fits H w) (a : Addr) : ∀ (l : List UInt8) (i : Nat) (acc : Array Value), bytesAt H a l i →
    (loadCellsFrom a i l.length acc).run P w = .ok (acc ++ (l.map fun b => Value.int .u8 (b.toNat : Int)).toArray) w
  | [], i, acc, _ => by simp [loadCellsFrom]
  | b :: l, i, acc, h => by
    obtain ⟨h1, h2⟩ := h
    simp only [List.length_cons, loadCellsFrom, Sem.run_bind, run_load, hw.cell? h1, Result.andThen_ok]
    rw [bytes_run hw a l (i + 1) _ h2]
    simp

theorem forIn_bytes {P : Program} (w : World) (g : Value → ByteArray → Sem (ForInStep ByteArray)) (hg : ∀ (b : UInt8) r, g (.int .u8 (b.toNat : Int)) r = pure (ForInStep.yield (r.push b))) : ∀ (l : List UInt8) (s : ByteArray),
    (forIn (l.map fun b => Value.int .u8 (b.toNat : Int)) s g : Sem ByteArray).run P w = .ok (l.foldl ByteArray.push s) w
  | [], s => by simp
  | b :: l, s => by
    simp only [List.map_cons, List.forIn_cons, Sem.run_bind, hg, Sem.run_pure, Result.andThen_ok, List.foldl_cons]
    exact forIn_bytes w g hg l _

theorem foldl_push (l : List UInt8) : ∀ (s : ByteArray), l.foldl ByteArray.push s = ⟨(s.data.toList ++ l).toArray⟩ := by
  induction l with
  | nil => intro s; simp
  | cons b l ih => intro s; rw [List.foldl_cons, ih]; simp [ByteArray.push]

theorem cells_run {P : Program} {H : Hp} {w : World} (hw : Fits H w) (a : Addr) : ∀ (n i : Nat) (acc : Array Value) (l : List Value), H.cells? a i n = some l → (loadCellsFrom a i n acc).run P w = .ok (acc ++ l.toArray) w
  | 0, i, acc, l, h => by simp [Hp.cells?] at h; subst h; simp [loadCellsFrom]
  | n + 1, i, acc, l, h => by
    unfold Hp.cells? at h
    split at h
    · rename_i v hv
      split at h
      · rename_i l' hl
        cases h
        simp only [loadCellsFrom, Sem.run_bind, run_load, hw.cell? hv, Result.andThen_ok]
        rw [cells_run hw a n (i + 1) _ _ hl]
        simp
      · cases h
    · cases h

theorem cells_length {H : Hp} {a : Addr} : ∀ {n i : Nat} {l : List Value}, H.cells? a i n = some l → l.length = n
  | 0, i, l, h => by simp [Hp.cells?] at h; subst h; rfl
  | n + 1, i, l, h => by
    unfold Hp.cells? at h
    split at h
    · split at h
      · rename_i l' hl
        cases h
        simp [cells_length hl]
      · cases h
    · cases h

theorem LdT.sound {P : Program} {t : TypeId} {a : Addr} {H : Hp} {K : Value → Prop} (h : LdT P t a H K) : ∃ v, K v ∧ ∀ w, Fits H w → (loadVar t a).run P w = .ok v w := by
  unfold LdT at h
  split at h
  · rename_i n e hu
    split at h
    · rename_i i hi
      unfold LdA at h
      split at h
      · rename_i l hl
        refine ⟨_, h, fun w hw => ?_⟩
        have hag : (isAgg t).run P w = .ok true w := by simp [isAgg, underlying, hu]
        have hsz : (sizeOf t).run P w = .ok i.size w := by simp [sizeOf, typeInfo, hi]
        simp only [loadVar, Sem.run_bind, hag, Result.andThen_ok, if_true, hsz, loadCells, cells_run hw _ _ _ _ _ hl]
        simp
      · exact h.elim
    · exact h.elim
  · rename_i fs hu
    split at h
    · rename_i i hi
      unfold LdA at h
      split at h
      · rename_i l hl
        refine ⟨_, h, fun w hw => ?_⟩
        have hag : (isAgg t).run P w = .ok true w := by simp [isAgg, underlying, hu]
        have hsz : (sizeOf t).run P w = .ok i.size w := by simp [sizeOf, typeInfo, hi]
        simp only [loadVar, Sem.run_bind, hag, Result.andThen_ok, if_true, hsz, loadCells, cells_run hw _ _ _ _ _ hl]
        simp
      · exact h.elim
    · exact h.elim
  · obtain ⟨v, hk, hr⟩ := rv_sound _ h
    exact ⟨v, hk.out, hr⟩

theorem rv_value {P : Program} {s : Sem Next} {H : Hp} {K : Value → Prop} (h : rv P s H (valueOf K)) : ∃ v, K v ∧ ∀ w, Fits H w → s.run P w = .ok (.value v) w := by
  obtain ⟨nx, hk, hr⟩ := rv_sound s h
  cases nx <;> first | exact hk.elim | exact ⟨_, hk, hr⟩

theorem NN.out {p : Option Addr} {K : Addr → Prop} (h : NN p K) : ∃ a, p = some a ∧ K a := by
  cases p with
  | none => exact h.elim
  | some a => exact ⟨a, rfl, h⟩

theorem BIf.out {c : Bool} {X Y : Prop} (h : BIf c X Y) : (c = true ∧ X) ∨ (c = false ∧ Y) := by
  cases c
  · exact .inr ⟨rfl, h⟩
  · exact .inl ⟨rfl, h⟩

theorem underlying_run {P : Program} {t : TypeId} {d : TypeDesc} (h : P.underlying t = some d) (w : World) : (underlying t).run P w = .ok d w := by
  simp [underlying, h]
theorem typeInfo_run {P : Program} {t : TypeId} {d : TypeInfo} (h : P.info? t = some d) (w : World) : (typeInfo t).run P w = .ok d w := by
  simp [typeInfo, h]
theorem sizeOf_run {P : Program} {t : TypeId} {d : TypeInfo} (h : P.info? t = some d) (w : World) : (sizeOf t).run P w = .ok d.size w := by
  simp [sizeOf, typeInfo_run h]

theorem isPtr_out {P : Program} {t : TypeId} (h : isPtr P t = true) : ∃ e, P.underlying t = some (.pointer e) := by
  unfold isPtr at h; split at h
  · exact ⟨_, ‹_›⟩
  · cases h
theorem isSl_out {P : Program} {t : TypeId} (h : isSl P t = true) : ∃ e, P.underlying t = some (.slice e) := by
  unfold isSl at h; split at h
  · exact ⟨_, ‹_›⟩
  · cases h

theorem eqGuard_run_ptr {P : Program} (op : BinOp) (t : TypeId) (x y : Operand) (p q : Option Addr) (w : World) : (eqGuard op t x y (.pointer p) (.pointer q)).run P w = .ok () w := by
  unfold eqGuard; cases op <;> simp
theorem eqGuard_run_sl {P : Program} (op : BinOp) (t : TypeId) (x y : Operand) (p q : Option Addr) (n c n' c' : Nat) (w : World) : (eqGuard op t x y (.slice p n c) (.slice q n' c')).run P w = .ok () w := by
  unfold eqGuard; cases op <;> simp
theorem eqGuard_run_int {P : Program} (op : BinOp) (t : TypeId) (x y : Operand) (k k' : IntKind) (a b : Int) (w : World) : (eqGuard op t x y (.int k a) (.int k' b)).run P w = .ok () w := by
  unfold eqGuard; cases op <;> simp
theorem eqGuard_run_str {P : Program} (op : BinOp) (t : TypeId) (x y : Operand) (a b : ByteArray) (w : World) : (eqGuard op t x y (.string a) (.string b)).run P w = .ok () w := by
  unfold eqGuard; cases op <;> simp

theorem equal_ptr_nil {P : Program} {t e : TypeId} (h : P.underlying t = some (.pointer e)) (p : Option Addr) (w : World) : (Op.equal t (.pointer p) (.pointer none)).run P w = .ok p.isNone w := by
  unfold Op.equal Op.maxDepth Op.equalIn
  cases p <;> simp [underlying_run h]
theorem equal_sl_nil {P : Program} {t e : TypeId} (h : P.underlying t = some (.slice e)) (p : Option Addr) (n c n' c' : Nat) (w : World) : (Op.equal t (.slice p n c) (.slice none n' c')).run P w = .ok p.isNone w := by
  unfold Op.equal Op.maxDepth Op.equalIn
  cases p <;> simp [underlying_run h]

theorem run_shl {P : Program} {t : TypeId} {xo yo : Operand} {k k' : IntKind} {a b : Int} (h : 0 ≤ b) (w : World) :
    (do eqGuard .shl t xo yo (.int k a) (.int k' b); binOp .shl t (.int k a) (.int k' b) : Sem Value).run P w = .ok (.int k (shlI k a b)) w := by
  have hn := Int.not_lt.2 h
  simp [eqGuard_run_int, binOp, Op.shift, shlI, hn]
theorem run_shr {P : Program} {t : TypeId} {xo yo : Operand} {k k' : IntKind} {a b : Int} (h : 0 ≤ b) (w : World) :
    (do eqGuard .shr t xo yo (.int k a) (.int k' b); binOp .shr t (.int k a) (.int k' b) : Sem Value).run P w = .ok (.int k (shrI k a b)) w := by
  have hn := Int.not_lt.2 h
  simp [eqGuard_run_int, binOp, Op.shift, shrI, hn]
theorem run_cat {P : Program} {t : TypeId} {xo yo : Operand} {a b : ByteArray} (h : a.size + b.size ≤ 4611686018427387904) (w : World) :
    (do eqGuard .add t xo yo (.string a) (.string b); binOp .add t (.string a) (.string b) : Sem Value).run P w = .ok (.string (a ++ b)) w := by
  have hn : ¬ ((a.size + b.size : Nat) : Int) > IntKind.i64.max := by rw [show IntKind.i64.max = 9223372036854775807 from rfl]; omega
  simp only [Sem.run_bind, eqGuard_run_str, Result.andThen_ok, binOp, Op.stringOp]
  rw [if_neg hn]; rfl

theorem opBin_sound {P : Program} {op : BinOp} {t : TypeId} {x y : Value} {gen : Prop} {K : Value → Prop} {H : Hp} {xo yo : Operand}
    (hg : gen → ∃ v, K v ∧ ∀ w, Fits H w → (do eqGuard op t xo yo x y; binOp op t x y : Sem Value).run P w = .ok v w) (h : opBin P op t x y gen K) :
    ∃ v, K v ∧ ∀ w, Fits H w → (do eqGuard op t xo yo x y; binOp op t x y : Sem Value).run P w = .ok v w := by
  unfold opBin at h
  split at h
  · obtain ⟨h0, rfl, hk⟩ := h
    exact ⟨_, hk, fun w _ => by simp [eqGuard_run_int, binOp, Op.intDiv, h0]⟩
  · obtain ⟨h0, rfl, hk⟩ := h
    exact ⟨_, hk, fun w _ => by simp [eqGuard_run_int, binOp, Op.intDiv, h0]⟩
  · obtain ⟨h0, hk⟩ := h
    exact ⟨_, hk, fun w _ => run_shl h0 w⟩
  · obtain ⟨h0, hk⟩ := h
    exact ⟨_, hk, fun w _ => run_shr h0 w⟩
  · obtain ⟨h0, hk⟩ := h
    exact ⟨_, hk, fun w _ => run_cat h0 w⟩
  · split at h
    · rcases BIf.out h with ⟨hp, hk⟩ | ⟨_, hk⟩
      · obtain ⟨e, he⟩ := isPtr_out hp
        exact ⟨_, hk, fun w _ => by simp [eqGuard_run_ptr, binOp, equal_ptr_nil he]⟩
      · exact hk.elim
    · obtain ⟨b, hk, hr⟩ := h; exact ⟨_, hk, fun w _ => hr _ _ w⟩
  · split at h
    · rcases BIf.out h with ⟨hp, hk⟩ | ⟨_, hk⟩
      · obtain ⟨e, he⟩ := isPtr_out hp
        exact ⟨_, hk, fun w _ => by simp [eqGuard_run_ptr, binOp, equal_ptr_nil he]⟩
      · exact hk.elim
    · obtain ⟨b, hk, hr⟩ := h; exact ⟨_, hk, fun w _ => hr _ _ w⟩
  · split at h
    · rcases BIf.out h with ⟨hp, hk⟩ | ⟨_, hk⟩
      · obtain ⟨e, he⟩ := isSl_out hp
        exact ⟨_, hk, fun w _ => by simp [eqGuard_run_sl, binOp, equal_sl_nil he]⟩
      · exact hk.elim
    · exact h.elim
  · split at h
    · rcases BIf.out h with ⟨hp, hk⟩ | ⟨_, hk⟩
      · obtain ⟨e, he⟩ := isSl_out hp
        exact ⟨_, hk, fun w _ => by simp [eqGuard_run_sl, binOp, equal_sl_nil he]⟩
      · exact hk.elim
    · exact h.elim
  · obtain ⟨b, hk, hr⟩ := h; exact ⟨_, hk, fun w _ => hr _ _ w⟩
  · obtain ⟨b, hk, hr⟩ := h; exact ⟨_, hk, fun w _ => hr _ _ w⟩
  · exact hg h

theorem sliceBound_run {P : Program} {k : IntKind} {i : Int} {y : Nat} {c : BoundsCode} (h0 : 0 ≤ i) (h1 : i ≤ y) (w : World) : (Instr.sliceBound (.int k i) y c).run P w = .ok i.toNat w := by
  simp [Instr.sliceBound, asIntOf, h0, h1]

/-- What the bounds of a slice expression come to. -/
theorem slB_sound {P : Program} {s : Bool} {len cap : Nat} {lo hi : Option Value} {lo' hi' : Option Int} {K : Nat → Nat → Prop} (hl : optI lo = some lo') (hh : optI hi = some hi') (h : slB len cap lo' hi' K) :
    ∃ l r, K l r ∧ ∀ w, (Instr.sliceBounds s len cap lo hi none).run P w = .ok (l, r, cap) w := by
  unfold slB at h
  cases hi with
  | none =>
    cases hh
    cases lo with
    | none => cases hl; exact ⟨_, _, h, fun w => by simp [Instr.sliceBounds]⟩
    | some v =>
      cases v <;> simp only [optI, Option.some.injEq, reduceCtorEq] at hl
      subst hl
      obtain ⟨h0, h1, hk⟩ := h
      exact ⟨_, _, hk, fun w => by simp [Instr.sliceBounds, sliceBound_run h0 h1]⟩
  | some u =>
    cases u <;> simp only [optI, Option.some.injEq, reduceCtorEq] at hh
    subst hh
    obtain ⟨h2, h3, h⟩ := h
    cases lo with
    | none => cases hl; exact ⟨_, _, h, fun w => by simp [Instr.sliceBounds, sliceBound_run h2 h3]⟩
    | some v =>
      cases v <;> simp only [optI, Option.some.injEq, reduceCtorEq] at hl
      subst hl
      obtain ⟨h0, h1, hk⟩ := h
      exact ⟨_, _, hk, fun w => by simp [Instr.sliceBounds, sliceBound_run h2 h3, sliceBound_run h0 h1]⟩

theorem opSlice_sound {P : Program} {t : TypeId} {x : Value} {lo hi mx : Option Value} {K : Value → Prop} (h : opSlice P t x lo hi mx K) :
    ∃ v, K v ∧ ∀ w, (Instr.sliceAt t x lo hi mx).run P w = .ok v w := by
  unfold opSlice at h
  split at h
  · rename_i lo' hi' hl hh
    split at h
    · rename_i s hu
      obtain ⟨l, r, hk, hr⟩ := slB_sound (P := P) (s := false) hl hh h
      exact ⟨_, hk, fun w => by simp [Instr.sliceAt, Instr.slice, underlying_run hu, hr]⟩
    · rename_i e a len cap hu
      split at h
      · rename_i i hi
        obtain ⟨l, r, hk, hr⟩ := slB_sound (P := P) (s := true) hl hh h
        exact ⟨_, hk, fun w => by simp [Instr.sliceAt, Instr.slice, underlying_run hu, hr, sizeOf_run hi, slA]⟩
      · exact h.elim
    · rename_i n e p hu
      split at h
      · rename_i i hi
        obtain ⟨a, rfl, h'⟩ := NN.out h
        obtain ⟨l, r, hk, hr⟩ := slB_sound (P := P) (s := false) hl hh h'
        refine ⟨_, hk, fun w => ?_⟩
        simp [Instr.sliceAt, Instr.sureAddr, underlying_run hu, hr, sizeOf_run hi, slA]
        split <;> rfl
      · exact h.elim
    · exact h.elim
  · exact h.elim

theorem List.append_toArray_nil_bytes (l : List Value) : (#[] ++ l.toArray) = l.toArray := by simp

theorem bytesToString_run {P : Program} {H : Hp} {w : World} (hw : Fits H w) {a : Option Addr} {n c : Nat} {s : ByteArray} (hs : s.size = n) (h : match a with | none => n = 0 | some ad => bytesAt H ad s.data.toList 0) :
    (Conv.bytesToString (.slice a n c)).run P w = .ok (.string s) w := by
  cases a with
  | none =>
    simp only at h
    have : s = ByteArray.empty := by
      have hd : s.data.size = 0 := (show s.data.size = s.size from rfl).trans (hs.trans h)
      cases s with | mk d => rw [Array.size_eq_zero_iff] at hd; subst hd; rfl
    subst this
    rfl
  | some ad =>
    simp only at h
    have hb := bytes_run (P := P) hw ad s.data.toList 0 #[] h
    have hn : s.data.toList.length = n := (Array.length_toList).trans hs
    rw [hn] at hb
    simp only [Conv.bytesToString, loadCells, Sem.run_bind, hb, Result.andThen_ok]
    rw [List.append_toArray_nil_bytes, List.forIn_toArray, forIn_bytes w _ (fun b r => by simp)]
    simp only [Result.andThen_ok, Sem.run_pure, foldl_push]
    simp

theorem opV_sound {P : Program} {o : Oper} {ρ : Operand → Value} {H : Hp} {K : Value → Prop} (h : opV P o ρ H K) : ∃ v, K v ∧ ∀ w, Fits H w → (execOp ρ o).run P w = .ok (.value v) w := by
  unfold opV at h
  split at h
  · rename_i x hop; exact ⟨_, h, fun w _ => by simp [execOp, hop]⟩
  · rename_i x hop; exact ⟨_, h, fun w _ => by simp [execOp, hop]⟩
  · rename_i c a b hop
    split at h
    · rename_i c' hc
      exact ⟨_, h, fun w _ => by simp [execOp, hop, hc, asBool, pickV_eq]⟩
    · exact h.elim
  · rename_i t x hop
    split at h
    · rename_i p hx
      obtain ⟨a, rfl, h⟩ := NN.out h
      obtain ⟨v, hk, hr⟩ := h.sound
      exact ⟨v, hk, fun w hw => by simp [execOp, hop, hx, Instr.loadAt, Instr.sureAddr, hr w hw]⟩
    · exact h.elim
  · rename_i x i hop
    unfold Ex at h
    split at h
    · rename_i vs hx
      split at h
      · rename_i u hu
        exact ⟨u, h.out, fun w _ => by simp [execOp, hop, hx, Instr.extract, hu]⟩
      · exact h.elim
    · exact h.elim
  · rename_i t x k ok hop
    split at h
    · obtain ⟨v, hk, hr⟩ := h
      exact ⟨v, hk.out, fun w hw => by simp [execOp, hop, hr w hw]⟩
    · exact h.elim
  · rename_i x hop
    split at h
    · rename_i p hx
      obtain ⟨a, rfl, h⟩ := NN.out h
      exact ⟨_, h, fun w _ => by simp [execOp, hop, hx]⟩
    · rename_i g f c hx
      exact ⟨_, h, fun w _ => by simp [execOp, hop, hx]⟩
    · exact h.elim
  · rename_i op t x y yt hop
    obtain ⟨v, hk, hr⟩ := opBin_sound (H := H) (xo := x) (yo := y) (fun hg => by
      obtain ⟨v, hk, hr⟩ := rv_value hg
      refine ⟨v, hk, fun w hw => ?_⟩
      have := hr w hw
      simp only [execOp, hop, Sem.run_bind] at this ⊢
      cases h1 : (eqGuard op t x y (ρ x) (ρ y)).run P w with
      | halt e w' => rw [h1] at this; simp at this
      | ok u w' =>
        rw [h1] at this
        simp only [Result.andThen_ok] at this ⊢
        cases h2 : (binOp op t (ρ x) (ρ y)).run P w' with
        | halt e w' => rw [h2] at this; simp at this
        | ok u w' => rw [h2] at this; simp at this; obtain ⟨rfl, rfl⟩ := this; rfl) h
    refine ⟨v, hk, fun w hw => ?_⟩
    have := hr w hw
    simp only [execOp, hop]
    rw [Sem.run_bind, this]; rfl
  · rename_i t x ix hop
    split at h
    · rename_i k i hi
      split at h
      · rename_i e a len cap hu hx
        split at h
        · rename_i j hj
          obtain ⟨h0, h1, h⟩ := h
          obtain ⟨a, rfl, h⟩ := NN.out h
          exact ⟨_, h, fun w _ => by simp [execOp, hop, hi, hx, Instr.indexAt, asIntOf, underlying_run hu, sizeOf_run hj, h0, h1]⟩
        · exact h.elim
      · rename_i len e p hu hx
        split at h
        · rename_i j hj
          obtain ⟨a, rfl, h⟩ := NN.out h
          obtain ⟨h0, h1, h⟩ := h
          exact ⟨_, h, fun w _ => by simp [execOp, hop, hi, hx, Instr.indexAt, Instr.sureAddr, asIntOf, underlying_run hu, sizeOf_run hj, h0, h1]⟩
        · exact h.elim
      · exact h.elim
    · exact h.elim
  · rename_i t x ix hop
    split at h
    · rename_i k i hi
      split at h
      · rename_i s hu hx
        obtain ⟨h0, h⟩ := h
        unfold ixB at h
        split at h
        · rename_i b hb
          exact ⟨_, h, fun w _ => by simp [execOp, hop, hi, hx, Instr.index, asIntOf, underlying_run hu, h0, hb]⟩
        · exact h.elim
      · rename_i len e cs hu hx
        split at h
        · rename_i fs j hs hj
          obtain ⟨h0, h1, h⟩ := h
          exact ⟨_, h, fun w _ => by simp [execOp, hop, hi, hx, Instr.index, asIntOf, underlying_run hu, h0, h1, part, isAgg, underlying_run hs, sizeOf_run hj]⟩
        · rename_i m e' j hs hj
          obtain ⟨h0, h1, h⟩ := h
          exact ⟨_, h, fun w _ => by simp [execOp, hop, hi, hx, Instr.index, asIntOf, underlying_run hu, h0, h1, part, isAgg, underlying_run hs, sizeOf_run hj]⟩
        · rename_i d j hn1 hn2 hs hj
          obtain ⟨h0, h1, h⟩ := h
          unfold ixV at h
          split at h
          · rename_i v hv
            refine ⟨_, h.out, fun w _ => ?_⟩
            have hag : (isAgg e).run P w = .ok false w := by
              simp only [isAgg, Sem.run_bind, underlying_run hs, Result.andThen_ok]
              cases d <;> first | rfl | exact (hn1 _ rfl).elim | exact (hn2 _ _ rfl).elim
            simp [execOp, hop, hi, hx, Instr.index, asIntOf, underlying_run hu, h0, h1, part, hag, sizeOf_run hj, hv]
          · exact h.elim
        · exact h.elim
      · exact h.elim
    · exact h.elim
  · rename_i t x lo hi mx hop
    obtain ⟨v, hk, hr⟩ := opSlice_sound h
    exact ⟨v, hk, fun w _ => by simp [execOp, hop, hr]⟩
  · rename_i t x f hop
    split at h
    · rename_i fs cs hu hx
      split at h
      · rename_i fd hf
        split at h
        · rename_i fs' j hs hj
          exact ⟨_, h, fun w _ => by simp [execOp, hop, hx, Instr.field, underlying_run hu, hf, asAgg, part, isAgg, underlying_run hs, sizeOf_run hj]⟩
        · rename_i m e' j hs hj
          exact ⟨_, h, fun w _ => by simp [execOp, hop, hx, Instr.field, underlying_run hu, hf, asAgg, part, isAgg, underlying_run hs, sizeOf_run hj]⟩
        · rename_i d j hn1 hn2 hs hj
          unfold ixV at h
          split at h
          · rename_i v hv
            refine ⟨_, h.out, fun w _ => ?_⟩
            have hag : (isAgg fd.type).run P w = .ok false w := by
              simp only [isAgg, Sem.run_bind, underlying_run hs, Result.andThen_ok]
              cases d <;> first | rfl | exact (hn1 _ rfl).elim | exact (hn2 _ _ rfl).elim
            simp [execOp, hop, hx, Instr.field, underlying_run hu, hf, asAgg, part, hag, hv]
          · exact h.elim
        · exact h.elim
      · exact h.elim
    · exact h.elim
  · rename_i t parts hop
    obtain ⟨v, hk, hr⟩ := rv_sound _ h.out
    refine ⟨v, hk, fun w hw => ?_⟩
    have := hr w hw
    have e : ∀ g : Nat × Operand → Nat × Value, (parts.toList.map g).toArray = parts.map g := fun g => by apply Array.ext'; simp
    rw [e] at this
    simp only [execOp, hop, Sem.run_bind, this]; rfl
  · rename_i s d x hop
    split at h
    · rename_i e a n c h1 h2 h3
      split at h
      · rename_i h4
        obtain ⟨s', hk, hs, hb⟩ := h
        refine ⟨_, hk, fun w hw => ?_⟩
        simp only [execOp, hop, h3, convert, Sem.run_bind, underlying_run h1, underlying_run h2, Result.andThen_ok, underlying_run h4, bytesToString_run hw hs hb]
        rfl
      · exact h.elim
    · exact rv_value h
  · exact rv_value h

end Go.Hw
