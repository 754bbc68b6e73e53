/-
  DERIVED. GIVEN WITH THE SEED: THE CARDS: each row of YtgfildcgihbdaaaGreatDoorRows.lean that lists a variable, with what it lists TIED to the program's text (the seventh form; the later family's looks); each row that meets fmt, with fmt's text TOLD by the authors' own Lean function (tested against real Go, not proved from fmt's source: count such statements apart). THE CARD IS WHAT COUNTS. Prove the row's statement (the work); the ties are given (YtgfildcgihbdaaaGreatDoorTie.lean); close each card by the builder's one call (the guide's Derived/Test/ToyasCard.lean, 'card_holds'). Laid BY PROGRAM, IN A SANDBOX (cutbox-door.mjs). By AI agents, Wed Nov 11 2026. No macro, syntax, notation, axiom, sorry.
-/
import Derived.Test.YtgfildcgihbdaaaGreatDoorRows
import GoSem.ClaimSeven
namespace Go.Proofs.YtgfildcgihbdaaaGreatDoor
namespace Rows

/-- THE TIED CARD OF 'abacistlaw34.BudgetTells'. -/
def budgetTellsCard : Claim7 := { stood := { row := budgetTellsRow, standIns := [], harness := (true, "68b4f0420dbe70cf22e42c74f38ec9f7d3aa34c7d6741ac25dffa05a342aa531"), looks := false }, kinds := [], alts := [], laidByText := true, laidKinds := [.data, .data, .data, .data, .pinned], laidTests := true, laidLooks := .later }
def BudgetTellsCardSaid : Prop := Claim7.holds Tryz.pinned (.plain (OpenSpec.ofChange budgetTellsSpec)) budgetTellsCard

/-- THE TIED CARD OF 'abacistlaw34.BudgetCrashes'. -/
def budgetCrashesCard : Claim7 := { stood := { row := budgetCrashesRow, standIns := [], harness := (true, "68b4f0420dbe70cf22e42c74f38ec9f7d3aa34c7d6741ac25dffa05a342aa531"), looks := false }, kinds := [], alts := [], laidByText := true, laidKinds := [.data, .data, .data, .data, .pinned], laidTests := true, laidLooks := .later }
def BudgetCrashesCardSaid : Prop := Claim7.holds Tryz.pinned (.plain (OpenSpec.ofChange budgetCrashesSpec)) budgetCrashesCard

/-- THE TIED CARD OF 'abacisttop.WholeCost'. -/
def wholeCostCard : Claim7 := { stood := { row := wholeCostRow, standIns := [], harness := (true, "68b4f0420dbe70cf22e42c74f38ec9f7d3aa34c7d6741ac25dffa05a342aa531"), looks := false }, kinds := [], alts := [], laidByText := true, laidKinds := [.data, .data, .data, .data, .pinned], laidTests := true, laidLooks := .later }
def WholeCostCardSaid : Prop := Claim7.holds Tryz.pinned (.plain (OpenSpec.ofChange wholeCostSpec)) wholeCostCard

/-- THE SECOND FORM's CARD OF 'abacistlaw34.BudgetTells'. -/
def budgetTellsUptoCard : Claim7 := { stood := { row := budgetTellsUptoRow, standIns := [], harness := (true, "68b4f0420dbe70cf22e42c74f38ec9f7d3aa34c7d6741ac25dffa05a342aa531"), looks := false }, kinds := [], alts := [], laidByText := true, laidKinds := [.data, .data, .data, .data, .pinned], laidTests := true, laidLooks := .later }
def BudgetTellsUptoCardSaid : Prop := Claim7.holds Tryz.pinned (.plain (OpenSpec.upto budgetTellsSpec)) budgetTellsUptoCard

/-- THE SECOND FORM's CARD OF 'abacistlaw34.BudgetCrashes'. -/
def budgetCrashesUptoCard : Claim7 := { stood := { row := budgetCrashesUptoRow, standIns := [], harness := (true, "68b4f0420dbe70cf22e42c74f38ec9f7d3aa34c7d6741ac25dffa05a342aa531"), looks := false }, kinds := [], alts := [], laidByText := true, laidKinds := [.data, .data, .data, .data, .pinned], laidTests := true, laidLooks := .later }
def BudgetCrashesUptoCardSaid : Prop := Claim7.holds Tryz.pinned (.plain (OpenSpec.upto budgetCrashesSpec)) budgetCrashesUptoCard

/-- THE SECOND FORM's CARD OF 'abacisttop.WholeCost'. -/
def wholeCostUptoCard : Claim7 := { stood := { row := wholeCostUptoRow, standIns := [], harness := (true, "68b4f0420dbe70cf22e42c74f38ec9f7d3aa34c7d6741ac25dffa05a342aa531"), looks := false }, kinds := [], alts := [], laidByText := true, laidKinds := [.data, .data, .data, .data, .pinned], laidTests := true, laidLooks := .later }
def WholeCostUptoCardSaid : Prop := Claim7.holds Tryz.pinned (.plain (OpenSpec.upto wholeCostSpec)) wholeCostUptoCard
end Rows
end Go.Proofs.YtgfildcgihbdaaaGreatDoor
