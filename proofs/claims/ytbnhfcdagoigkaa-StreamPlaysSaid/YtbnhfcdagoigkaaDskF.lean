/- disk: what the law DiskSafe does with a disk. -/
import Derived.Test.YtbnhfcdagoigkaaDskE
set_option maxRecDepth 100000
set_option linter.unusedSimpArgs false
set_option linter.unusedVariables false
set_option linter.unnecessarySimpa false
set_option linter.unusedSectionVars false
namespace Go.Proofs.Ytbnhfcdagoigkaa.Dsk
open Go Go.Hw Go.Form Go.Proofs.Ytbnhfcdagoigkaa.W

theorem CellsS.rdA {s : Nat} {H : Hp} {A : Option Addr} {rows : List (List Value)} (h : CellsS s H A rows) {i : Nat} {r : List Value} (hi : rows[i]? = some r) (hr : r.length = s) {x : Int} (hx : x = i) {n : Nat} (hn : rows.length ≤ n) {K : List Value → Prop} (k : K r) :
    ixI x n (NN A fun a => LdA H (a.add (x.toNat * s)) s K) := by
  obtain ⟨a, rfl, hc⟩ := h i r hi
  subst hx
  have := (List.getElem?_eq_some_iff.1 hi).1
  refine ⟨by omega, by omega, ?_⟩
  rw [Int.toNat_natCast]
  have hcells : Cells H (some (a.add (i * s))) r := fun j v hj => ⟨_, rfl, by rw [add_add]; exact hc j v hj⟩
  have := hcells.cells?
  rw [hr] at this
  show LdA H (a.add (i * s)) s K
  unfold LdA
  rw [this]
  exact k

/-- Something that is done. -/
structure Act where
  k : Int
  i : Int
  A : Option Addr
  n : Nat
  m : Nat
  b : List UInt8
  A' : Option Addr
  n' : Nat
  m' : Nat
  ks : List Bool
def actRow (a : Act) : List Value := [.int .i64 a.k, .int .i64 a.i, .slice a.A a.n a.m, .slice a.A' a.n' a.m']
structure OkA (H : Hp) (a : Act) : Prop where
  n : a.n = a.b.length
  b : Cells H a.A (byteVals a.b)
  n' : a.n' = a.ks.length
  ks : Cells H a.A' (boolVals a.ks)
  i : -9223372036854775808 ≤ a.i ∧ a.i ≤ 9223372036854775807

/-- Bytes, as long as a sector. -/
def laidB (bs : List UInt8) : List UInt8 := bs.take 32 ++ List.replicate (32 - bs.length) 0
theorem laidB_len (bs : List UInt8) : (laidB bs).length = 32 := by
  unfold laidB
  rw [List.length_append, List.length_take, List.length_replicate]; omega

end Go.Proofs.Ytbnhfcdagoigkaa.Dsk
