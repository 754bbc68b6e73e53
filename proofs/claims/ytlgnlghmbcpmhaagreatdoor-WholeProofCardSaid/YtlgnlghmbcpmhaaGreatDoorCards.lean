/-
  DERIVED. GIVEN WITH THE SEED: THE CARDS: each row of YtlgnlghmbcpmhaaGreatDoorRows.lean that lists a variable, with what it lists TIED to the program's text (the seventh form; the later family's looks); each row that meets fmt, with fmt's text TOLD by the authors' own Lean function (tested against real Go, not proved from fmt's source: count such statements apart). THE CARD IS WHAT COUNTS. Prove the row's statement (the work); the ties are given (YtlgnlghmbcpmhaaGreatDoorTie.lean); close each card by the builder's one call (the guide's Derived/Test/ToyasCard.lean, 'card_holds'). Laid BY PROGRAM, IN A SANDBOX (cutbox-door.mjs). By AI agents, Wed Nov 11 2026. No macro, syntax, notation, axiom, sorry.
-/
import Derived.Test.YtlgnlghmbcpmhaaGreatDoorRows
import GoSem.ClaimSeven
namespace Go.Proofs.YtlgnlghmbcpmhaaGreatDoor
namespace Rows

/-- THE TIED CARD OF 'abacistlaw26.EngineMachine'. -/
def engineMachineCard : Claim7 := { stood := { row := engineMachineRow, standIns := [], harness := (true, "a50aed58f16e9f29bf6f34d4c57342ea1d2e136d9e69b45e46dcd7378cb1dd32"), looks := false }, kinds := [], alts := [], laidByText := true, laidKinds := [.data, .data, .data, .pinned], laidTests := true, laidLooks := .later }
def EngineMachineCardSaid : Prop := Claim7.holds Tryz.pinned (.plain (OpenSpec.ofChange engineMachineSpec)) engineMachineCard

/-- THE TIED CARD OF 'abacistlaw26.EngineCrashes'. -/
def engineCrashesCard : Claim7 := { stood := { row := engineCrashesRow, standIns := [], harness := (true, "a50aed58f16e9f29bf6f34d4c57342ea1d2e136d9e69b45e46dcd7378cb1dd32"), looks := false }, kinds := [], alts := [], laidByText := true, laidKinds := [.data, .data, .data, .pinned], laidTests := true, laidLooks := .later }
def EngineCrashesCardSaid : Prop := Claim7.holds Tryz.pinned (.plain (OpenSpec.ofChange engineCrashesSpec)) engineCrashesCard

/-- THE TIED CARD OF 'abacistlaw37.QueueFormats'. -/
def queueFormatsCard : Claim7 := { stood := { row := queueFormatsRow, standIns := [], harness := (true, "a50aed58f16e9f29bf6f34d4c57342ea1d2e136d9e69b45e46dcd7378cb1dd32"), looks := false }, kinds := [], alts := [], laidByText := true, laidKinds := [.data, .data, .data, .pinned], laidTests := true, laidLooks := .later }
def QueueFormatsCardSaid : Prop := Claim7.holds Tryz.pinned (.plain (OpenSpec.ofChange queueFormatsSpec)) queueFormatsCard

/-- THE TIED CARD OF 'abacistlaw37.QueueRuns'. -/
def queueRunsCard : Claim7 := { stood := { row := queueRunsRow, standIns := [], harness := (true, "a50aed58f16e9f29bf6f34d4c57342ea1d2e136d9e69b45e46dcd7378cb1dd32"), looks := false }, kinds := [], alts := [], laidByText := true, laidKinds := [.data, .data, .data, .pinned], laidTests := true, laidLooks := .later }
def QueueRunsCardSaid : Prop := Claim7.holds Tryz.pinned (.plain (OpenSpec.ofChange queueRunsSpec)) queueRunsCard

/-- THE TIED CARD OF 'abacistlaw35.InspectFinds'. -/
def inspectFindsCard : Claim7 := { stood := { row := inspectFindsRow, standIns := [], harness := (true, "a50aed58f16e9f29bf6f34d4c57342ea1d2e136d9e69b45e46dcd7378cb1dd32"), looks := false }, kinds := [], alts := [], laidByText := true, laidKinds := [.data, .data, .data, .data, .data, .pinned], laidTests := true, laidLooks := .later }
def InspectFindsCardSaid : Prop := Claim7.holds Tryz.pinned (.plain (OpenSpec.ofChange inspectFindsSpec)) inspectFindsCard

/-- THE TIED CARD OF 'abacistlaw35.InspectLines'. -/
def inspectLinesCard : Claim7 := { stood := { row := inspectLinesRow, standIns := [], harness := (true, "a50aed58f16e9f29bf6f34d4c57342ea1d2e136d9e69b45e46dcd7378cb1dd32"), looks := false }, kinds := [], alts := [], laidByText := true, laidKinds := [.data, .data, .data, .data, .data, .data, .pinned], laidTests := true, laidLooks := .later }
def InspectLinesCardSaid : Prop := Claim7.holds Tryz.pinned (.plain (OpenSpec.ofChange inspectLinesSpec)) inspectLinesCard

/-- THE TIED CARD OF 'abacistlaw35.InspectClean'. -/
def inspectCleanCard : Claim7 := { stood := { row := inspectCleanRow, standIns := [], harness := (true, "a50aed58f16e9f29bf6f34d4c57342ea1d2e136d9e69b45e46dcd7378cb1dd32"), looks := false }, kinds := [], alts := [], laidByText := true, laidKinds := [.data, .data, .data, .data, .data, .pinned], laidTests := true, laidLooks := .later }
def InspectCleanCardSaid : Prop := Claim7.holds Tryz.pinned (.plain (OpenSpec.ofChange inspectCleanSpec)) inspectCleanCard

/-- THE TIED CARD OF 'abacisttop.WholeOrder'. -/
def wholeOrderCard : Claim7 := { stood := { row := wholeOrderRow, standIns := [], harness := (true, "a50aed58f16e9f29bf6f34d4c57342ea1d2e136d9e69b45e46dcd7378cb1dd32"), looks := false }, kinds := [], alts := [], laidByText := true, laidKinds := [.data, .data, .data, .pinned], laidTests := true, laidLooks := .later }
def WholeOrderCardSaid : Prop := Claim7.holds Tryz.pinned (.plain (OpenSpec.ofChange wholeOrderSpec)) wholeOrderCard

/-- THE TIED CARD OF 'abacisttop.WholeProof'. -/
def wholeProofCard : Claim7 := { stood := { row := wholeProofRow, standIns := [], harness := (true, "a50aed58f16e9f29bf6f34d4c57342ea1d2e136d9e69b45e46dcd7378cb1dd32"), looks := false }, kinds := [], alts := [], laidByText := true, laidKinds := [.data, .data, .data, .pinned], laidTests := true, laidLooks := .later }
def WholeProofCardSaid : Prop := Claim7.holds Tryz.pinned (.plain (OpenSpec.ofChange wholeProofSpec)) wholeProofCard

/-- THE SECOND FORM's CARD OF 'abacistlaw26.EngineMachine'. -/
def engineMachineUptoCard : Claim7 := { stood := { row := engineMachineUptoRow, standIns := [], harness := (true, "a50aed58f16e9f29bf6f34d4c57342ea1d2e136d9e69b45e46dcd7378cb1dd32"), looks := false }, kinds := [], alts := [], laidByText := true, laidKinds := [.data, .data, .data, .pinned], laidTests := true, laidLooks := .later }
def EngineMachineUptoCardSaid : Prop := Claim7.holds Tryz.pinned (.plain (OpenSpec.upto engineMachineSpec)) engineMachineUptoCard

/-- THE SECOND FORM's CARD OF 'abacistlaw26.EngineCrashes'. -/
def engineCrashesUptoCard : Claim7 := { stood := { row := engineCrashesUptoRow, standIns := [], harness := (true, "a50aed58f16e9f29bf6f34d4c57342ea1d2e136d9e69b45e46dcd7378cb1dd32"), looks := false }, kinds := [], alts := [], laidByText := true, laidKinds := [.data, .data, .data, .pinned], laidTests := true, laidLooks := .later }
def EngineCrashesUptoCardSaid : Prop := Claim7.holds Tryz.pinned (.plain (OpenSpec.upto engineCrashesSpec)) engineCrashesUptoCard

/-- THE SECOND FORM's CARD OF 'abacistlaw37.QueueFormats'. -/
def queueFormatsUptoCard : Claim7 := { stood := { row := queueFormatsUptoRow, standIns := [], harness := (true, "a50aed58f16e9f29bf6f34d4c57342ea1d2e136d9e69b45e46dcd7378cb1dd32"), looks := false }, kinds := [], alts := [], laidByText := true, laidKinds := [.data, .data, .data, .pinned], laidTests := true, laidLooks := .later }
def QueueFormatsUptoCardSaid : Prop := Claim7.holds Tryz.pinned (.plain (OpenSpec.upto queueFormatsSpec)) queueFormatsUptoCard

/-- THE SECOND FORM's CARD OF 'abacistlaw37.QueueRuns'. -/
def queueRunsUptoCard : Claim7 := { stood := { row := queueRunsUptoRow, standIns := [], harness := (true, "a50aed58f16e9f29bf6f34d4c57342ea1d2e136d9e69b45e46dcd7378cb1dd32"), looks := false }, kinds := [], alts := [], laidByText := true, laidKinds := [.data, .data, .data, .pinned], laidTests := true, laidLooks := .later }
def QueueRunsUptoCardSaid : Prop := Claim7.holds Tryz.pinned (.plain (OpenSpec.upto queueRunsSpec)) queueRunsUptoCard

/-- THE SECOND FORM's CARD OF 'abacistlaw35.InspectFinds'. -/
def inspectFindsUptoCard : Claim7 := { stood := { row := inspectFindsUptoRow, standIns := [], harness := (true, "a50aed58f16e9f29bf6f34d4c57342ea1d2e136d9e69b45e46dcd7378cb1dd32"), looks := false }, kinds := [], alts := [], laidByText := true, laidKinds := [.data, .data, .data, .data, .data, .pinned], laidTests := true, laidLooks := .later }
def InspectFindsUptoCardSaid : Prop := Claim7.holds Tryz.pinned (.plain (OpenSpec.upto inspectFindsSpec)) inspectFindsUptoCard

/-- THE SECOND FORM's CARD OF 'abacistlaw35.InspectLines'. -/
def inspectLinesUptoCard : Claim7 := { stood := { row := inspectLinesUptoRow, standIns := [], harness := (true, "a50aed58f16e9f29bf6f34d4c57342ea1d2e136d9e69b45e46dcd7378cb1dd32"), looks := false }, kinds := [], alts := [], laidByText := true, laidKinds := [.data, .data, .data, .data, .data, .data, .pinned], laidTests := true, laidLooks := .later }
def InspectLinesUptoCardSaid : Prop := Claim7.holds Tryz.pinned (.plain (OpenSpec.upto inspectLinesSpec)) inspectLinesUptoCard

/-- THE SECOND FORM's CARD OF 'abacistlaw35.InspectClean'. -/
def inspectCleanUptoCard : Claim7 := { stood := { row := inspectCleanUptoRow, standIns := [], harness := (true, "a50aed58f16e9f29bf6f34d4c57342ea1d2e136d9e69b45e46dcd7378cb1dd32"), looks := false }, kinds := [], alts := [], laidByText := true, laidKinds := [.data, .data, .data, .data, .data, .pinned], laidTests := true, laidLooks := .later }
def InspectCleanUptoCardSaid : Prop := Claim7.holds Tryz.pinned (.plain (OpenSpec.upto inspectCleanSpec)) inspectCleanUptoCard

/-- THE SECOND FORM's CARD OF 'abacisttop.WholeOrder'. -/
def wholeOrderUptoCard : Claim7 := { stood := { row := wholeOrderUptoRow, standIns := [], harness := (true, "a50aed58f16e9f29bf6f34d4c57342ea1d2e136d9e69b45e46dcd7378cb1dd32"), looks := false }, kinds := [], alts := [], laidByText := true, laidKinds := [.data, .data, .data, .pinned], laidTests := true, laidLooks := .later }
def WholeOrderUptoCardSaid : Prop := Claim7.holds Tryz.pinned (.plain (OpenSpec.upto wholeOrderSpec)) wholeOrderUptoCard

/-- THE SECOND FORM's CARD OF 'abacisttop.WholeProof'. -/
def wholeProofUptoCard : Claim7 := { stood := { row := wholeProofUptoRow, standIns := [], harness := (true, "a50aed58f16e9f29bf6f34d4c57342ea1d2e136d9e69b45e46dcd7378cb1dd32"), looks := false }, kinds := [], alts := [], laidByText := true, laidKinds := [.data, .data, .data, .pinned], laidTests := true, laidLooks := .later }
def WholeProofUptoCardSaid : Prop := Claim7.holds Tryz.pinned (.plain (OpenSpec.upto wholeProofSpec)) wholeProofUptoCard
end Rows
end Go.Proofs.YtlgnlghmbcpmhaaGreatDoor
