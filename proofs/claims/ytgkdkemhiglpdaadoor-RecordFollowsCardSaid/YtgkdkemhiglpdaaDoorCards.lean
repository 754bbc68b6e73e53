/-
  DERIVED. GIVEN WITH THE SEED: THE CARDS: each row of YtgkdkemhiglpdaaDoorRows.lean that lists a variable, with what it lists TIED to the program's text (the seventh form; the later family's looks); each row that meets fmt, with fmt's text TOLD by the authors' own Lean function (tested against real Go, not proved from fmt's source: count such statements apart). THE CARD IS WHAT COUNTS. Prove the row's statement (the work); the ties are given (YtgkdkemhiglpdaaDoorTie.lean); close each card by the builder's one call (the guide's Derived/Test/ToyasCard.lean, 'card_holds'). Laid BY PROGRAM, IN A SANDBOX (cutbox-door.mjs). By AI agents, Wed Nov 11 2026. No macro, syntax, notation, axiom, sorry.
-/
import Derived.Test.YtgkdkemhiglpdaaDoorRows
import GoSem.ClaimSeven
namespace Go.Proofs.YtgkdkemhiglpdaaDoor
namespace Rows

/-- THE TIED CARD OF 'abacistlaw20.RecordFollows'. -/
def recordFollowsCard : Claim7 := { stood := { row := recordFollowsRow, standIns := [], harness := (true, "99dddb59db4ca4a7261051461f5da1137662eb75b072e092d7604a2a17dd3f1c"), looks := false }, kinds := [], alts := [], laidByText := true, laidKinds := [.data, .data, .data, .data], laidTests := true, laidLooks := .later }
def RecordFollowsCardSaid : Prop := Claim7.holds Tryd.pinned (.plain (OpenSpec.ofChange recordFollowsSpec)) recordFollowsCard

/-- THE TIED CARD OF 'abacistlaw22.TurnBands'. -/
def turnBandsCard : Claim7 := { stood := { row := turnBandsRow, standIns := [], harness := (true, "99dddb59db4ca4a7261051461f5da1137662eb75b072e092d7604a2a17dd3f1c"), looks := false }, kinds := [], alts := [], laidByText := true, laidKinds := [.data], laidTests := true, laidLooks := .later }
def TurnBandsCardSaid : Prop := Claim7.holds Tryd.pinned (.plain (OpenSpec.ofChange turnBandsSpec)) turnBandsCard

/-- THE TIED CARD OF 'abacistlaw22.TurnRuns'. -/
def turnRunsCard : Claim7 := { stood := { row := turnRunsRow, standIns := [], harness := (true, "99dddb59db4ca4a7261051461f5da1137662eb75b072e092d7604a2a17dd3f1c"), looks := false }, kinds := [], alts := [], laidByText := true, laidKinds := [.data], laidTests := true, laidLooks := .later }
def TurnRunsCardSaid : Prop := Claim7.holds Tryd.pinned (.plain (OpenSpec.ofChange turnRunsSpec)) turnRunsCard

/-- THE TIED CARD OF 'abacistlaw22.TurnCosts'. -/
def turnCostsCard : Claim7 := { stood := { row := turnCostsRow, standIns := [], harness := (true, "99dddb59db4ca4a7261051461f5da1137662eb75b072e092d7604a2a17dd3f1c"), looks := false }, kinds := [], alts := [], laidByText := true, laidKinds := [.data], laidTests := true, laidLooks := .later }
def TurnCostsCardSaid : Prop := Claim7.holds Tryd.pinned (.plain (OpenSpec.ofChange turnCostsSpec)) turnCostsCard

/-- THE TIED CARD OF 'abacistlaw38.GenRows'. -/
def genRowsCard : Claim7 := { stood := { row := genRowsRow, standIns := [], harness := (true, "99dddb59db4ca4a7261051461f5da1137662eb75b072e092d7604a2a17dd3f1c"), looks := false }, kinds := [], alts := [], laidByText := true, laidKinds := [.data, .data, .data, .data], laidTests := true, laidLooks := .later }
def GenRowsCardSaid : Prop := Claim7.holds Tryd.pinned (.plain (OpenSpec.ofChange genRowsSpec)) genRowsCard

/-- THE TIED CARD OF 'abacistlaw38.GenFar'. -/
def genFarCard : Claim7 := { stood := { row := genFarRow, standIns := [], harness := (true, "99dddb59db4ca4a7261051461f5da1137662eb75b072e092d7604a2a17dd3f1c"), looks := false }, kinds := [], alts := [], laidByText := true, laidKinds := [.data, .data, .data, .data], laidTests := true, laidLooks := .later }
def GenFarCardSaid : Prop := Claim7.holds Tryd.pinned (.plain (OpenSpec.ofChange genFarSpec)) genFarCard

/-- THE TIED CARD OF 'abacistlaw38.GenSums'. -/
def genSumsCard : Claim7 := { stood := { row := genSumsRow, standIns := [], harness := (true, "99dddb59db4ca4a7261051461f5da1137662eb75b072e092d7604a2a17dd3f1c"), looks := false }, kinds := [], alts := [], laidByText := true, laidKinds := [.data, .data, .data, .data], laidTests := true, laidLooks := .later }
def GenSumsCardSaid : Prop := Claim7.holds Tryd.pinned (.plain (OpenSpec.ofChange genSumsSpec)) genSumsCard

/-- THE SECOND FORM's CARD OF 'abacistlaw20.RecordFollows'. -/
def recordFollowsUptoCard : Claim7 := { stood := { row := recordFollowsUptoRow, standIns := [], harness := (true, "99dddb59db4ca4a7261051461f5da1137662eb75b072e092d7604a2a17dd3f1c"), looks := false }, kinds := [], alts := [], laidByText := true, laidKinds := [.data, .data, .data, .data], laidTests := true, laidLooks := .later }
def RecordFollowsUptoCardSaid : Prop := Claim7.holds Tryd.pinned (.plain (OpenSpec.upto recordFollowsSpec)) recordFollowsUptoCard

/-- THE SECOND FORM's CARD OF 'abacistlaw22.TurnBands'. -/
def turnBandsUptoCard : Claim7 := { stood := { row := turnBandsUptoRow, standIns := [], harness := (true, "99dddb59db4ca4a7261051461f5da1137662eb75b072e092d7604a2a17dd3f1c"), looks := false }, kinds := [], alts := [], laidByText := true, laidKinds := [.data], laidTests := true, laidLooks := .later }
def TurnBandsUptoCardSaid : Prop := Claim7.holds Tryd.pinned (.plain (OpenSpec.upto turnBandsSpec)) turnBandsUptoCard

/-- THE SECOND FORM's CARD OF 'abacistlaw22.TurnRuns'. -/
def turnRunsUptoCard : Claim7 := { stood := { row := turnRunsUptoRow, standIns := [], harness := (true, "99dddb59db4ca4a7261051461f5da1137662eb75b072e092d7604a2a17dd3f1c"), looks := false }, kinds := [], alts := [], laidByText := true, laidKinds := [.data], laidTests := true, laidLooks := .later }
def TurnRunsUptoCardSaid : Prop := Claim7.holds Tryd.pinned (.plain (OpenSpec.upto turnRunsSpec)) turnRunsUptoCard

/-- THE SECOND FORM's CARD OF 'abacistlaw22.TurnCosts'. -/
def turnCostsUptoCard : Claim7 := { stood := { row := turnCostsUptoRow, standIns := [], harness := (true, "99dddb59db4ca4a7261051461f5da1137662eb75b072e092d7604a2a17dd3f1c"), looks := false }, kinds := [], alts := [], laidByText := true, laidKinds := [.data], laidTests := true, laidLooks := .later }
def TurnCostsUptoCardSaid : Prop := Claim7.holds Tryd.pinned (.plain (OpenSpec.upto turnCostsSpec)) turnCostsUptoCard

/-- THE SECOND FORM's CARD OF 'abacistlaw38.GenRows'. -/
def genRowsUptoCard : Claim7 := { stood := { row := genRowsUptoRow, standIns := [], harness := (true, "99dddb59db4ca4a7261051461f5da1137662eb75b072e092d7604a2a17dd3f1c"), looks := false }, kinds := [], alts := [], laidByText := true, laidKinds := [.data, .data, .data, .data], laidTests := true, laidLooks := .later }
def GenRowsUptoCardSaid : Prop := Claim7.holds Tryd.pinned (.plain (OpenSpec.upto genRowsSpec)) genRowsUptoCard

/-- THE SECOND FORM's CARD OF 'abacistlaw38.GenFar'. -/
def genFarUptoCard : Claim7 := { stood := { row := genFarUptoRow, standIns := [], harness := (true, "99dddb59db4ca4a7261051461f5da1137662eb75b072e092d7604a2a17dd3f1c"), looks := false }, kinds := [], alts := [], laidByText := true, laidKinds := [.data, .data, .data, .data], laidTests := true, laidLooks := .later }
def GenFarUptoCardSaid : Prop := Claim7.holds Tryd.pinned (.plain (OpenSpec.upto genFarSpec)) genFarUptoCard

/-- THE SECOND FORM's CARD OF 'abacistlaw38.GenSums'. -/
def genSumsUptoCard : Claim7 := { stood := { row := genSumsUptoRow, standIns := [], harness := (true, "99dddb59db4ca4a7261051461f5da1137662eb75b072e092d7604a2a17dd3f1c"), looks := false }, kinds := [], alts := [], laidByText := true, laidKinds := [.data, .data, .data, .data], laidTests := true, laidLooks := .later }
def GenSumsUptoCardSaid : Prop := Claim7.holds Tryd.pinned (.plain (OpenSpec.upto genSumsSpec)) genSumsUptoCard
end Rows
end Go.Proofs.YtgkdkemhiglpdaaDoor
