/- arena's law: awake, ArenaApart. -/
import Derived.Test.YtbnhfcdagoigkaaAreA
set_option maxRecDepth 100000
set_option linter.unusedSimpArgs false
set_option linter.unusedVariables false
set_option linter.unnecessarySimpa false
set_option linter.unusedSectionVars false

namespace Go.Proofs.Ytbnhfcdagoigkaa.Are
open Go Go.Hw Go.Proofs.Ytbnhfcdagoigkaa.W

def valF (i k : Nat) : Value := .int .u64 ((100 * i + k + 1 : Nat) : Int)
def vals (i n : Nat) : List Value := (List.range n).map (valF i)

theorem val_wrap {i k : Nat} (hi : i ≤ 100) (hk : k ≤ 100) : IntKind.u64.wrap (IntKind.i64.wrap (IntKind.i64.wrap (IntKind.i64.wrap (100 * (i : Int)) + (k : Int)) + 1)) = ((100 * i + k + 1 : Nat) : Int) := by
  rw [i64w (x := 100 * (i : Int)) (by omega) (by omega), i64w (x := 100 * (i : Int) + k) (by omega) (by omega), i64w (by omega) (by omega), u64w (by omega) (by omega)]
  omega

theorem zeros_filled (f : Nat → Value) (n : Nat) : zerosU64 n = (filled f (.int .u64 0) n 0).toList := by
  unfold zerosU64 filled
  rw [zeroRow_one]
  apply List.ext_getElem?
  intro j
  by_cases h : j < n <;> simp [h]

structure Inv (H0 H : Hp) (a mp cl : Nat) (tk : List (Nat × Int × Nat)) (used peak : Int) (bs : List (Nat × Nat × Nat)) (A : Option Addr) (n m : Nat) : Prop where
  le : H0.le H
  ne : a ≠ mp
  ha : H a = some (arenaO 1000 used peak mp)
  ha0 : H0 a = none
  hm : H mp = some (mapO tk cl)
  hm0 : H0 mp = none
  hl : ∀ x ∈ tk, PlainB H x.1
  hb : ∀ (j : Nat) (x : Nat × Nat × Nat), bs[j]? = some x → H x.1 = some (bufO a (some ⟨x.2.1, 0, none⟩) x.2.2 x.2.2) ∧ H x.2.1 = some (.row (vals j x.2.2) 62 x.2.2) ∧ x.2.2 ≤ 64
  hn : n = bs.length
  all : (A = none ∧ bs = [] ∧ m = 0) ∨ ∃ ab mm, A = some ⟨ab, 0, none⟩ ∧ H0 ab = none ∧ H ab = some (.row (bs.map fun x => ptrV x.1) 105 mm) ∧ m ≤ mm

theorem Inv.cells {H0 H : Hp} {a mp cl : Nat} {tk : List (Nat × Int × Nat)} {used peak : Int} {bs : List (Nat × Nat × Nat)} {A : Option Addr} {n m : Nat} (h : Inv H0 H a mp cl tk used peak bs A n m) : Cells H A (bs.map fun x => ptrV x.1) := by
  rcases h.all with ⟨rfl, rfl, _⟩ | ⟨ab, mm, rfl, _, hab, _⟩
  · exact Cells.nil _ _
  · have := Cells.row hab 0 bs.length
    rwa [List.drop_zero, List.take_of_length_le (by simp)] at this

end Go.Proofs.Ytbnhfcdagoigkaa.Are
