/- The frame of the proofs: small laws for the reading of formulas; from a contract to a law's walk. -/
import Derived.Test.YtbnhfcdagoigkaaHwE
set_option maxRecDepth 100000
set_option linter.unusedSimpArgs false
set_option linter.unusedVariables false
set_option linter.unnecessarySimpa false
set_option linter.unusedSectionVars false
namespace Go.Hw
open Go Go.RowKit

@[simp] theorem DI_int' (k : IntKind) (n : Int) (K : Int → Prop) : DI k (.int k n) K = K n := DI_int k n K
@[simp] theorem DB_bool (b : Bool) (K : Bool → Prop) : DB (.bool b) K = K b := Eq.trans rfl rfl
@[simp] theorem DS_string (b : ByteArray) (K : ByteArray → Prop) : DS (.string b) K = K b := Eq.trans rfl rfl
@[simp] theorem DP_pointer (b : Option Addr) (K : Option Addr → Prop) : DP (.pointer b) K = K b := Eq.trans rfl rfl
@[simp] theorem DSl_slice (a : Option Addr) (n c : Nat) (K : Option Addr → Nat → Nat → Prop) : DSl (.slice a n c) K = K a n c := Eq.trans rfl rfl
@[simp] theorem DM_map (r : Option Nat) (K : Option Nat → Prop) : DM (.map r) K = K r := Eq.trans rfl rfl
@[simp] theorem DA_agg (cs : Array Value) (K : Array Value → Prop) : DA (.agg cs) K = K cs := Eq.trans rfl rfl
@[simp] theorem DTup_tuple (vs : Array Value) (K : List Value → Prop) : DTup (.tuple vs) K = K vs.toList := Eq.trans rfl rfl
@[simp] theorem DCons_cons (v : Value) (l : List Value) (K : Value → List Value → Prop) : DCons (v :: l) K = K v l := Eq.trans rfl rfl
@[simp] theorem DNil_nil (K : Prop) : DNil [] K = K := Eq.trans rfl rfl
@[simp] theorem NN_some (a : Addr) (K : Addr → Prop) : NN (some a) K = K a := Eq.trans rfl rfl
@[simp] theorem BIf_true (X Y : Prop) : BIf true X Y = X := Eq.trans rfl rfl
@[simp] theorem BIf_false (X Y : Prop) : BIf false X Y = Y := Eq.trans rfl rfl
theorem BIf_decide (p : Prop) [Decidable p] (X Y : Prop) : BIf (decide p) X Y = if p then X else Y := by
  by_cases h : p <;> simp [h]
theorem BIf_iff (c : Bool) (X Y : Prop) : BIf c X Y ↔ (c = true → X) ∧ (c = false → Y) := by cases c <;> simp
theorem BIf_if (c : Bool) (X Y : Prop) : BIf c X Y = if c = true then X else Y := by cases c <;> simp
@[simp] theorem BIf_same (c : Bool) (X : Prop) : BIf c X X = X := by cases c <;> rfl
theorem BIf_intro {c : Bool} {X Y : Prop} (h1 : c = true → X) (h2 : c = false → Y) : BIf c X Y := (BIf_iff _ _ _).2 ⟨h1, h2⟩
theorem BIf_pos {c : Bool} {X Y : Prop} (h : c = true) (k : X) : BIf c X Y := by rw [h]; exact k
theorem BIf_neg {c : Bool} {X Y : Prop} (h : c = false) (k : Y) : BIf c X Y := by rw [h]; exact k
theorem BIf_dpos {p : Prop} [Decidable p] {X Y : Prop} (h : p) (k : X) : BIf (decide p) X Y := BIf_pos (by simpa using h) k
theorem BIf_dneg {p : Prop} [Decidable p] {X Y : Prop} (h : ¬ p) (k : Y) : BIf (decide p) X Y := BIf_neg (by simpa using h) k

theorem BIf_bnep {a b : Int} {X Y : Prop} (h : a ≠ b) (k : X) : BIf (a != b) X Y := BIf_pos (by simpa using h) k
theorem BIf_bnen {a b : Int} {X Y : Prop} (h : a = b) (k : Y) : BIf (a != b) X Y := BIf_neg (by simpa using h) k
theorem BIf_beqp {a b : Int} {X Y : Prop} (h : a = b) (k : X) : BIf (a == b) X Y := BIf_pos (by simpa using h) k
theorem BIf_beqn {a b : Int} {X Y : Prop} (h : a ≠ b) (k : Y) : BIf (a == b) X Y := BIf_neg (by simpa using h) k

theorem Ld_of {H : Hp} {a : Addr} {v : Value} {K : Value → Prop} (h : H.cell? a = some v) (k : K v) : Ld H a K := by unfold Ld; rw [h]; exact k
theorem Ld_eq {H : Hp} {a : Addr} {v : Value} (K : Value → Prop) (h : H.cell? a = some v) : Ld H a K = K v := by unfold Ld; rw [h]
theorem St_of {H H' : Hp} {a : Addr} {v : Value} {K : Hp → Prop} (h : H.put? a v = some H') (k : K H') : St H a v K := by unfold St; rw [h]; exact k
theorem ixV_of {cs : Array Value} {i : Nat} {v : Value} {K : Value → Prop} (h : cs[i]? = some v) (k : K v) : ixV cs i K := by unfold ixV; rw [h]; exact k
theorem ixB_of {s : ByteArray} {i : Nat} {K : Int → Prop} (h : i < s.size) (k : K (s[i].toNat : Int)) : ixB s i K := by
  unfold ixB; rw [getElem?_pos s i h]; exact k

/-- What is known, just so. -/
def RetE (v : Value) (H : Hp) : Value → Hp → Prop := fun v' H' => v' = v ∧ H' = H
/-- .. and what else has been made besides. -/
def Ret (v : Value) (H : Hp) : Value → Hp → Prop := fun v' H' => v' = v ∧ H.le H'

theorem HCalls.ret {P : Program} {f : FuncId} {args : Array Value} {H0 H : Hp} {v : Value} (h : HCalls P f args H0 (Ret v H)) : HCalls P f args H0 (RetE v H) :=
  (h.mono fun _ _ ⟨e, l⟩ => ⟨H, l, e, rfl⟩ : HCalls P f args H0 fun v' H' => ∃ H'', H''.le H' ∧ RetE v H v' H'').forget

theorem HCalls.use {P : Program} {f : FuncId} {args : Array Value} {H0 H : Hp} {v : Value} {K : Value → Hp → Prop} (h : HCalls P f args H0 (RetE v H)) (k : K v H) : HCalls P f args H0 K :=
  h.mono fun _ _ ⟨e1, e2⟩ => by rw [e1, e2]; exact k

theorem QCall.use {P : Program} {f : FuncId} {args : Array Value} {H : Hp} {v : Value} {K : Value → Prop} (h : HCalls P f args H (RetE v H)) (k : K v) : QCall P f args H K :=
  ⟨v, k, h.mono fun _ _ ⟨e1, e2⟩ => ⟨e1, by rw [e2]; exact Hp.le_refl H⟩⟩

theorem Hp.le_set {H : Hp} {b : Nat} {o : AO} (h : H b = none) : H.le (H.set b o) := fun c q hq => by
  by_cases e : c = b
  · subst e; rw [h] at hq; cases hq
  · rw [Hp.set_other _ _ e]; exact hq
theorem Hp.le_trans {H H' H'' : Hp} (h : H.le H') (k : H'.le H'') : H.le H'' := fun c q hq => k c q (h c q hq)

@[simp] theorem Hp.set_self (H : Hp) (b : Nat) (o : AO) : H.set b o b = some o := Hp.set_same H b o
theorem Hp.set_set (H : Hp) (b : Nat) (o o' : AO) : (H.set b o).set b o' = H.set b o' := by funext c; unfold Hp.set; split <;> rfl
theorem Hp.set_id {H : Hp} {b : Nat} {o : AO} (h : H b = some o) : H.set b o = H := by
  funext c; unfold Hp.set; split
  · rename_i e; rw [e, h]
  · rfl

@[simp] theorem Addr.add_zero (a : Addr) : a.add 0 = a := rfl
theorem Addr.add_mk (b o n : Nat) : (⟨b, o, none⟩ : Addr).add n = ⟨b, o + n, none⟩ := by unfold Addr.add; split <;> simp_all
@[simp] theorem Addr.add_lit' (b o n : Nat) : (⟨b, o, none⟩ : Addr).add n = ⟨b, o + n, none⟩ := Addr.add_mk b o n

theorem cell_obj {H : Hp} {b : Nat} {c : Array Value} {e : TypeId} {fr : Nat × Nat} (h : H b = some (.obj (.cells c e fr))) (i : Nat) : H.cell? ⟨b, i, none⟩ = c[i]? := by
  unfold Hp.cell?; simp [h]
theorem cell_row {H : Hp} {b : Nat} {xs : List Value} {e : TypeId} {m : Nat} (h : H b = some (.row xs e m)) (i : Nat) : H.cell? ⟨b, i, none⟩ = xs[i]? := by
  unfold Hp.cell?; simp [h]
theorem put_obj {H : Hp} {b : Nat} {c : Array Value} {e : TypeId} (h : H b = some (.obj (.cells c e))) {i : Nat} (hi : i < c.size) {v : Value} (hv : v.oneCell' = true) :
    H.put? ⟨b, i, none⟩ v = some (H.set b (.obj (.cells (c.setIfInBounds i v) e))) := by
  unfold Hp.put?; simp [h, hi, hv]
theorem put_row {H : Hp} {b : Nat} {xs : List Value} {e : TypeId} {m : Nat} (h : H b = some (.row xs e m)) {i : Nat} (hi : i < xs.length) {v : Value} (hv : v.oneCell' = true) :
    H.put? ⟨b, i, none⟩ v = some (H.set b (.row (xs.set i v) e m)) := by
  unfold Hp.put?; simp [h, hi, hv]

theorem i64w {x : Int} (h0 : -9223372036854775808 ≤ x) (h1 : x ≤ 9223372036854775807) : IntKind.i64.wrap x = x := IntWalk.i64_in x ⟨h0, h1⟩
theorem u64w {x : Int} (h0 : 0 ≤ x) (h1 : x ≤ 18446744073709551615) : IntKind.u64.wrap x = x := by
  simp only [IntKind.wrap, IntKind.bits, IntKind.signed, Bool.false_and, Bool.false_eq_true, if_false]; omega
theorem u32w {x : Int} (h0 : 0 ≤ x) (h1 : x ≤ 4294967295) : IntKind.u32.wrap x = x := by
  simp only [IntKind.wrap, IntKind.bits, IntKind.signed, Bool.false_and, Bool.false_eq_true, if_false]; omega
theorem u16w {x : Int} (h0 : 0 ≤ x) (h1 : x ≤ 65535) : IntKind.u16.wrap x = x := by
  simp only [IntKind.wrap, IntKind.bits, IntKind.signed, Bool.false_and, Bool.false_eq_true, if_false]; omega
theorem u8w {x : Int} (h0 : 0 ≤ x) (h1 : x ≤ 255) : IntKind.u8.wrap x = x := by
  simp only [IntKind.wrap, IntKind.bits, IntKind.signed, Bool.false_and, Bool.false_eq_true, if_false]; omega
theorem i64n {n : Nat} (h : n ≤ 9223372036854775807) : IntKind.i64.wrap (n : Int) = n := i64w (by omega) (by omega)
theorem u64n {n : Nat} (h : n ≤ 18446744073709551615) : IntKind.u64.wrap (n : Int) = n := u64w (by omega) (by omega)
theorem u32n {n : Nat} (h : n ≤ 4294967295) : IntKind.u32.wrap (n : Int) = n := u32w (by omega) (by omega)
theorem u8n {n : Nat} (h : n ≤ 255) : IntKind.u8.wrap (n : Int) = n := u8w (by omega) (by omega)
theorem u64mod (x : Int) : IntKind.u64.wrap x = x % 18446744073709551616 := by
  simp only [IntKind.wrap, IntKind.bits, IntKind.signed, Bool.false_and, Bool.false_eq_true, if_false]; rfl
theorem u32mod (x : Int) : IntKind.u32.wrap x = x % 4294967296 := by
  simp only [IntKind.wrap, IntKind.bits, IntKind.signed, Bool.false_and, Bool.false_eq_true, if_false]; rfl
theorem u8mod (x : Int) : IntKind.u8.wrap x = x % 256 := by
  simp only [IntKind.wrap, IntKind.bits, IntKind.signed, Bool.false_and, Bool.false_eq_true, if_false]; rfl

theorem RetE.ret {P : Program} {f : FuncId} {args : Array Value} {H0 H : Hp} {v : Value} (h : HCalls P f args H0 (RetE v H)) : HCalls P f args H0 (Ret v H) :=
  h.mono fun _ _ ⟨e1, e2⟩ => ⟨e1, by rw [e2]; exact Hp.le_refl H⟩
theorem RetE.mk (v : Value) (H : Hp) : RetE v H v H := ⟨rfl, rfl⟩
theorem RetE.of {v v' : Value} {H : Hp} (h : v' = v) : RetE v H v' H := ⟨h, rfl⟩

/-! ## From a contract to a law's walk -/

/-- All that lies in a world. -/
def Full (w : World) : Hp := fun b => (w.heap[b]?).map AO.obj

theorem Full.fits (w : World) : Fits (Full w) w := fun b o h => by
  unfold Full at h
  obtain ⟨x, hx, rfl⟩ := Option.map_eq_some_iff.1 h
  exact ⟨x, hx, rfl⟩

theorem Full.cell {w : World} {b i : Nat} {v : Value} (h : w.cell? ⟨b, i, none⟩ = some v) : (Full w).cell? ⟨b, i, none⟩ = some v := by
  unfold World.cell? at h
  unfold Hp.cell? Full
  split at h
  · rename_i c e f hb
    simp only at hb
    simp only [hb, Option.map_some]
    exact h
  · cases h

theorem law_calls {P : Program} {f : FuncId} {args : Array Value} {w : World} (h : HCalls P f args (Full w) (Ret (.bool true) (Full w))) :
    Calls P f args w fun e w' => e = .returned (.bool true) ∧ Below w.heap.size w w' := by
  refine (h w (Full.fits w)).mono ?_
  rintro e w' ⟨v, H', rfl, ⟨rfl, hle⟩, hA⟩
  refine ⟨rfl, hA.os, hA.tape, hA.output, hA.size, fun k hk => ?_⟩
  have h1 : w.heap[k]? = some w.heap[k] := by simp [hk]
  obtain ⟨o', ho, hh⟩ := hA.fits k (.obj w.heap[k]) (hle k _ (by unfold Full; rw [h1]; rfl))
  cases hh
  rw [ho, h1]

end Go.Hw
