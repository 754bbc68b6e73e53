/-
  DERIVED. GIVEN WITH THE SEED: THE CARDS: each row of YtghajiefpmcpmaaGreatDoorRows.lean that lists a variable, with what it lists TIED to the program's text (the seventh form; the later family's looks); each row that meets fmt, with fmt's text TOLD by the authors' own Lean function (tested against real Go, not proved from fmt's source: count such statements apart). THE CARD IS WHAT COUNTS. Prove the row's statement (the work); the ties are given (YtghajiefpmcpmaaGreatDoorTie.lean); close each card by the builder's one call (the guide's Derived/Test/ToyasCard.lean, 'card_holds'). Laid BY PROGRAM, IN A SANDBOX (cutbox-door.mjs). By AI agents, Wed Nov 11 2026. No macro, syntax, notation, axiom, sorry.
-/
import Derived.Test.YtghajiefpmcpmaaGreatDoorRows
import GoSem.ClaimSeven
namespace Go.Proofs.YtghajiefpmcpmaaGreatDoor
namespace Rows

/-- THE TIED CARD OF 'abacistlaw25.ExecAll'. -/
def execAllCard : Claim7 := { stood := { row := execAllRow, standIns := [], harness := (true, "0da7b67529c7b77ab806d04d14fcbb6f9e9f8f9359a24509eab15e10fb7cd6d8"), looks := false }, kinds := [], alts := [], laidByText := true, laidKinds := [.data, .data], laidTests := true, laidLooks := .later }
def ExecAllCardSaid : Prop := Claim7.holds Tryz.pinned (.plain (OpenSpec.ofChange execAllSpec)) execAllCard

/-- THE TIED CARD OF 'abacistlaw21.RingSafe'. -/
def ringSafeCard : Claim7 := { stood := { row := ringSafeRow, standIns := [], harness := (true, "0da7b67529c7b77ab806d04d14fcbb6f9e9f8f9359a24509eab15e10fb7cd6d8"), looks := false }, kinds := [], alts := [], laidByText := true, laidKinds := [.data, .pinned], laidTests := true, laidLooks := .later }
def RingSafeCardSaid : Prop := Claim7.holds Tryz.pinned (.plain (OpenSpec.ofChange ringSafeSpec)) ringSafeCard

/-- THE TIED CARD OF 'abacistlaw21.RingPlays'. -/
def ringPlaysCard : Claim7 := { stood := { row := ringPlaysRow, standIns := [], harness := (true, "0da7b67529c7b77ab806d04d14fcbb6f9e9f8f9359a24509eab15e10fb7cd6d8"), looks := false }, kinds := [], alts := [], laidByText := true, laidKinds := [.data, .pinned], laidTests := true, laidLooks := .later }
def RingPlaysCardSaid : Prop := Claim7.holds Tryz.pinned (.plain (OpenSpec.ofChange ringPlaysSpec)) ringPlaysCard

/-- THE TIED CARD OF 'abacistlaw26.EngineMachine'. -/
def engineMachineCard : Claim7 := { stood := { row := engineMachineRow, standIns := [], harness := (true, "0da7b67529c7b77ab806d04d14fcbb6f9e9f8f9359a24509eab15e10fb7cd6d8"), looks := false }, kinds := [], alts := [], laidByText := true, laidKinds := [.data, .data, .data, .pinned], laidTests := true, laidLooks := .later }
def EngineMachineCardSaid : Prop := Claim7.holds Tryz.pinned (.plain (OpenSpec.ofChange engineMachineSpec)) engineMachineCard

/-- THE TIED CARD OF 'abacistlaw26.EngineCrashes'. -/
def engineCrashesCard : Claim7 := { stood := { row := engineCrashesRow, standIns := [], harness := (true, "0da7b67529c7b77ab806d04d14fcbb6f9e9f8f9359a24509eab15e10fb7cd6d8"), looks := false }, kinds := [], alts := [], laidByText := true, laidKinds := [.data, .data, .data, .pinned], laidTests := true, laidLooks := .later }
def EngineCrashesCardSaid : Prop := Claim7.holds Tryz.pinned (.plain (OpenSpec.ofChange engineCrashesSpec)) engineCrashesCard

/-- THE TIED CARD OF 'abacistlaw26.EngineSolves'. -/
def engineSolvesCard : Claim7 := { stood := { row := engineSolvesRow, standIns := [], harness := (true, "0da7b67529c7b77ab806d04d14fcbb6f9e9f8f9359a24509eab15e10fb7cd6d8"), looks := false }, kinds := [], alts := [], laidByText := true, laidKinds := [.data, .data, .data, .pinned], laidTests := true, laidLooks := .later }
def EngineSolvesCardSaid : Prop := Claim7.holds Tryz.pinned (.plain (OpenSpec.ofChange engineSolvesSpec)) engineSolvesCard

/-- THE TIED CARD OF 'abacistlaw34.BudgetTells'. -/
def budgetTellsCard : Claim7 := { stood := { row := budgetTellsRow, standIns := [], harness := (true, "0da7b67529c7b77ab806d04d14fcbb6f9e9f8f9359a24509eab15e10fb7cd6d8"), looks := false }, kinds := [], alts := [], laidByText := true, laidKinds := [.data, .data, .data, .data, .pinned], laidTests := true, laidLooks := .later }
def BudgetTellsCardSaid : Prop := Claim7.holds Tryz.pinned (.plain (OpenSpec.ofChange budgetTellsSpec)) budgetTellsCard

/-- THE TIED CARD OF 'abacistlaw34.BudgetCrashes'. -/
def budgetCrashesCard : Claim7 := { stood := { row := budgetCrashesRow, standIns := [], harness := (true, "0da7b67529c7b77ab806d04d14fcbb6f9e9f8f9359a24509eab15e10fb7cd6d8"), looks := false }, kinds := [], alts := [], laidByText := true, laidKinds := [.data, .data, .data, .data, .pinned], laidTests := true, laidLooks := .later }
def BudgetCrashesCardSaid : Prop := Claim7.holds Tryz.pinned (.plain (OpenSpec.ofChange budgetCrashesSpec)) budgetCrashesCard

/-- THE TIED CARD OF 'abacisttop.WholeCrashes'. -/
def wholeCrashesCard : Claim7 := { stood := { row := wholeCrashesRow, standIns := [], harness := (true, "0da7b67529c7b77ab806d04d14fcbb6f9e9f8f9359a24509eab15e10fb7cd6d8"), looks := false }, kinds := [], alts := [], laidByText := true, laidKinds := [.data, .data, .data, .pinned], laidTests := true, laidLooks := .later }
def WholeCrashesCardSaid : Prop := Claim7.holds Tryz.pinned (.plain (OpenSpec.ofChange wholeCrashesSpec)) wholeCrashesCard

/-- THE TIED CARD OF 'abacisttop.WholeInput'. -/
def wholeInputCard : Claim7 := { stood := { row := wholeInputRow, standIns := [], harness := (true, "0da7b67529c7b77ab806d04d14fcbb6f9e9f8f9359a24509eab15e10fb7cd6d8"), looks := false }, kinds := [], alts := [], laidByText := true, laidKinds := [.data, .data, .data, .pinned], laidTests := true, laidLooks := .later }
def WholeInputCardSaid : Prop := Claim7.holds Tryz.pinned (.plain (OpenSpec.ofChange wholeInputSpec)) wholeInputCard

/-- THE TIED CARD OF 'abacisttop.WholeProof'. -/
def wholeProofCard : Claim7 := { stood := { row := wholeProofRow, standIns := [], harness := (true, "0da7b67529c7b77ab806d04d14fcbb6f9e9f8f9359a24509eab15e10fb7cd6d8"), looks := false }, kinds := [], alts := [], laidByText := true, laidKinds := [.data, .data, .data, .pinned], laidTests := true, laidLooks := .later }
def WholeProofCardSaid : Prop := Claim7.holds Tryz.pinned (.plain (OpenSpec.ofChange wholeProofSpec)) wholeProofCard

/-- THE TIED CARD OF 'abacisttop.WholeCost'. -/
def wholeCostCard : Claim7 := { stood := { row := wholeCostRow, standIns := [], harness := (true, "0da7b67529c7b77ab806d04d14fcbb6f9e9f8f9359a24509eab15e10fb7cd6d8"), looks := false }, kinds := [], alts := [], laidByText := true, laidKinds := [.data, .data, .data, .data, .pinned], laidTests := true, laidLooks := .later }
def WholeCostCardSaid : Prop := Claim7.holds Tryz.pinned (.plain (OpenSpec.ofChange wholeCostSpec)) wholeCostCard

/-- THE SECOND FORM's CARD OF 'abacistlaw25.ExecAll'. -/
def execAllUptoCard : Claim7 := { stood := { row := execAllUptoRow, standIns := [], harness := (true, "0da7b67529c7b77ab806d04d14fcbb6f9e9f8f9359a24509eab15e10fb7cd6d8"), looks := false }, kinds := [], alts := [], laidByText := true, laidKinds := [.data, .data], laidTests := true, laidLooks := .later }
def ExecAllUptoCardSaid : Prop := Claim7.holds Tryz.pinned (.plain (OpenSpec.upto execAllSpec)) execAllUptoCard

/-- THE SECOND FORM's CARD OF 'abacistlaw21.RingSafe'. -/
def ringSafeUptoCard : Claim7 := { stood := { row := ringSafeUptoRow, standIns := [], harness := (true, "0da7b67529c7b77ab806d04d14fcbb6f9e9f8f9359a24509eab15e10fb7cd6d8"), looks := false }, kinds := [], alts := [], laidByText := true, laidKinds := [.data, .pinned], laidTests := true, laidLooks := .later }
def RingSafeUptoCardSaid : Prop := Claim7.holds Tryz.pinned (.plain (OpenSpec.upto ringSafeSpec)) ringSafeUptoCard

/-- THE SECOND FORM's CARD OF 'abacistlaw21.RingPlays'. -/
def ringPlaysUptoCard : Claim7 := { stood := { row := ringPlaysUptoRow, standIns := [], harness := (true, "0da7b67529c7b77ab806d04d14fcbb6f9e9f8f9359a24509eab15e10fb7cd6d8"), looks := false }, kinds := [], alts := [], laidByText := true, laidKinds := [.data, .pinned], laidTests := true, laidLooks := .later }
def RingPlaysUptoCardSaid : Prop := Claim7.holds Tryz.pinned (.plain (OpenSpec.upto ringPlaysSpec)) ringPlaysUptoCard

/-- THE SECOND FORM's CARD OF 'abacistlaw26.EngineMachine'. -/
def engineMachineUptoCard : Claim7 := { stood := { row := engineMachineUptoRow, standIns := [], harness := (true, "0da7b67529c7b77ab806d04d14fcbb6f9e9f8f9359a24509eab15e10fb7cd6d8"), looks := false }, kinds := [], alts := [], laidByText := true, laidKinds := [.data, .data, .data, .pinned], laidTests := true, laidLooks := .later }
def EngineMachineUptoCardSaid : Prop := Claim7.holds Tryz.pinned (.plain (OpenSpec.upto engineMachineSpec)) engineMachineUptoCard

/-- THE SECOND FORM's CARD OF 'abacistlaw26.EngineCrashes'. -/
def engineCrashesUptoCard : Claim7 := { stood := { row := engineCrashesUptoRow, standIns := [], harness := (true, "0da7b67529c7b77ab806d04d14fcbb6f9e9f8f9359a24509eab15e10fb7cd6d8"), looks := false }, kinds := [], alts := [], laidByText := true, laidKinds := [.data, .data, .data, .pinned], laidTests := true, laidLooks := .later }
def EngineCrashesUptoCardSaid : Prop := Claim7.holds Tryz.pinned (.plain (OpenSpec.upto engineCrashesSpec)) engineCrashesUptoCard

/-- THE SECOND FORM's CARD OF 'abacistlaw26.EngineSolves'. -/
def engineSolvesUptoCard : Claim7 := { stood := { row := engineSolvesUptoRow, standIns := [], harness := (true, "0da7b67529c7b77ab806d04d14fcbb6f9e9f8f9359a24509eab15e10fb7cd6d8"), looks := false }, kinds := [], alts := [], laidByText := true, laidKinds := [.data, .data, .data, .pinned], laidTests := true, laidLooks := .later }
def EngineSolvesUptoCardSaid : Prop := Claim7.holds Tryz.pinned (.plain (OpenSpec.upto engineSolvesSpec)) engineSolvesUptoCard

/-- THE SECOND FORM's CARD OF 'abacistlaw34.BudgetTells'. -/
def budgetTellsUptoCard : Claim7 := { stood := { row := budgetTellsUptoRow, standIns := [], harness := (true, "0da7b67529c7b77ab806d04d14fcbb6f9e9f8f9359a24509eab15e10fb7cd6d8"), looks := false }, kinds := [], alts := [], laidByText := true, laidKinds := [.data, .data, .data, .data, .pinned], laidTests := true, laidLooks := .later }
def BudgetTellsUptoCardSaid : Prop := Claim7.holds Tryz.pinned (.plain (OpenSpec.upto budgetTellsSpec)) budgetTellsUptoCard

/-- THE SECOND FORM's CARD OF 'abacistlaw34.BudgetCrashes'. -/
def budgetCrashesUptoCard : Claim7 := { stood := { row := budgetCrashesUptoRow, standIns := [], harness := (true, "0da7b67529c7b77ab806d04d14fcbb6f9e9f8f9359a24509eab15e10fb7cd6d8"), looks := false }, kinds := [], alts := [], laidByText := true, laidKinds := [.data, .data, .data, .data, .pinned], laidTests := true, laidLooks := .later }
def BudgetCrashesUptoCardSaid : Prop := Claim7.holds Tryz.pinned (.plain (OpenSpec.upto budgetCrashesSpec)) budgetCrashesUptoCard

/-- THE SECOND FORM's CARD OF 'abacisttop.WholeCrashes'. -/
def wholeCrashesUptoCard : Claim7 := { stood := { row := wholeCrashesUptoRow, standIns := [], harness := (true, "0da7b67529c7b77ab806d04d14fcbb6f9e9f8f9359a24509eab15e10fb7cd6d8"), looks := false }, kinds := [], alts := [], laidByText := true, laidKinds := [.data, .data, .data, .pinned], laidTests := true, laidLooks := .later }
def WholeCrashesUptoCardSaid : Prop := Claim7.holds Tryz.pinned (.plain (OpenSpec.upto wholeCrashesSpec)) wholeCrashesUptoCard

/-- THE SECOND FORM's CARD OF 'abacisttop.WholeInput'. -/
def wholeInputUptoCard : Claim7 := { stood := { row := wholeInputUptoRow, standIns := [], harness := (true, "0da7b67529c7b77ab806d04d14fcbb6f9e9f8f9359a24509eab15e10fb7cd6d8"), looks := false }, kinds := [], alts := [], laidByText := true, laidKinds := [.data, .data, .data, .pinned], laidTests := true, laidLooks := .later }
def WholeInputUptoCardSaid : Prop := Claim7.holds Tryz.pinned (.plain (OpenSpec.upto wholeInputSpec)) wholeInputUptoCard

/-- THE SECOND FORM's CARD OF 'abacisttop.WholeProof'. -/
def wholeProofUptoCard : Claim7 := { stood := { row := wholeProofUptoRow, standIns := [], harness := (true, "0da7b67529c7b77ab806d04d14fcbb6f9e9f8f9359a24509eab15e10fb7cd6d8"), looks := false }, kinds := [], alts := [], laidByText := true, laidKinds := [.data, .data, .data, .pinned], laidTests := true, laidLooks := .later }
def WholeProofUptoCardSaid : Prop := Claim7.holds Tryz.pinned (.plain (OpenSpec.upto wholeProofSpec)) wholeProofUptoCard

/-- THE SECOND FORM's CARD OF 'abacisttop.WholeCost'. -/
def wholeCostUptoCard : Claim7 := { stood := { row := wholeCostUptoRow, standIns := [], harness := (true, "0da7b67529c7b77ab806d04d14fcbb6f9e9f8f9359a24509eab15e10fb7cd6d8"), looks := false }, kinds := [], alts := [], laidByText := true, laidKinds := [.data, .data, .data, .data, .pinned], laidTests := true, laidLooks := .later }
def WholeCostUptoCardSaid : Prop := Claim7.holds Tryz.pinned (.plain (OpenSpec.upto wholeCostSpec)) wholeCostUptoCard
end Rows
end Go.Proofs.YtghajiefpmcpmaaGreatDoor
