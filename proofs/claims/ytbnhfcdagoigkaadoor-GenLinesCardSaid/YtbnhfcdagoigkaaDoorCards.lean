/-
  DERIVED. GIVEN WITH THE SEED: THE CARDS: each row of YtbnhfcdagoigkaaDoorRows.lean that lists a variable, with what it lists TIED to the program's text (the seventh form; the later family's looks); each row that meets fmt, with fmt's text TOLD by the authors' own Lean function (tested against real Go, not proved from fmt's source: count such statements apart). THE CARD IS WHAT COUNTS. Prove the row's statement (the work); the ties are given (YtbnhfcdagoigkaaDoorTie.lean); close each card by the builder's one call (the guide's Derived/Test/ToyasCard.lean, 'card_holds'). Laid BY PROGRAM, IN A SANDBOX (cutbox-door.mjs). By AI agents, Wed Nov 11 2026. No macro, syntax, notation, axiom, sorry.
-/
import Derived.Test.YtbnhfcdagoigkaaDoorRows
import GoSem.ClaimSeven
namespace Go.Proofs.YtbnhfcdagoigkaaDoor
namespace Rows

/-- THE TIED CARD OF 'abacistlaw20.RecordForms'. -/
def recordFormsCard : Claim7 := { stood := { row := recordFormsRow, standIns := [], harness := (true, "8baf4567e59a94612e3a177372636c75f72025906b542ef04cd9e6970fa3bae9"), looks := true }, kinds := [], alts := [], laidByText := true, laidKinds := [.data, .data, .data, .data, .data, .pinned], laidTests := true, laidLooks := .later }
def RecordFormsCardSaid : Prop := Claim7.holds Tryd.pinned (.plain (OpenSpec.ofChange recordFormsSpec)) recordFormsCard

/-- THE TIED CARD OF 'abacistlaw20.RecordTurned'. -/
def recordTurnedCard : Claim7 := { stood := { row := recordTurnedRow, standIns := [], harness := (true, "8baf4567e59a94612e3a177372636c75f72025906b542ef04cd9e6970fa3bae9"), looks := true }, kinds := [], alts := [], laidByText := true, laidKinds := [.data, .data, .data, .data, .data, .pinned], laidTests := true, laidLooks := .later }
def RecordTurnedCardSaid : Prop := Claim7.holds Tryd.pinned (.plain (OpenSpec.ofChange recordTurnedSpec)) recordTurnedCard

/-- THE TIED CARD OF 'abacistlaw23.PassBack'. -/
def passBackCard : Claim7 := { stood := { row := passBackRow, standIns := [], harness := (true, "8baf4567e59a94612e3a177372636c75f72025906b542ef04cd9e6970fa3bae9"), looks := true }, kinds := [], alts := [], laidByText := true, laidKinds := [.data, .data], laidTests := true, laidLooks := .later }
def PassBackCardSaid : Prop := Claim7.holds Tryd.pinned (.plain (OpenSpec.ofChange passBackSpec)) passBackCard

/-- THE TIED CARD OF 'abacistlaw23.PassCosts'. -/
def passCostsCard : Claim7 := { stood := { row := passCostsRow, standIns := [], harness := (true, "8baf4567e59a94612e3a177372636c75f72025906b542ef04cd9e6970fa3bae9"), looks := true }, kinds := [], alts := [], laidByText := true, laidKinds := [.data, .data], laidTests := true, laidLooks := .later }
def PassCostsCardSaid : Prop := Claim7.holds Tryd.pinned (.plain (OpenSpec.ofChange passCostsSpec)) passCostsCard

/-- THE TIED CARD OF 'abacistlaw04.CodecTexts'. -/
def codecTextsCard : Claim7 := { stood := { row := codecTextsRow, standIns := [], harness := (true, "8baf4567e59a94612e3a177372636c75f72025906b542ef04cd9e6970fa3bae9"), looks := true }, kinds := [], alts := [], laidByText := true, laidKinds := [.data, .data, .data, .data, .pinned], laidTests := true, laidLooks := .later }
def CodecTextsCardSaid : Prop := Claim7.holds Tryd.pinned (.plain (OpenSpec.ofChange codecTextsSpec)) codecTextsCard

/-- THE TIED CARD OF 'abacistlaw20.RecordLines'. -/
def recordLinesCard : Claim7 := { stood := { row := recordLinesRow, standIns := [], harness := (true, "8baf4567e59a94612e3a177372636c75f72025906b542ef04cd9e6970fa3bae9"), looks := true }, kinds := [], alts := [], laidByText := true, laidKinds := [.data, .data, .data, .data, .sentinel, .sentinel, .data, .pinned], laidTests := true, laidLooks := .later }
def RecordLinesCardSaid : Prop := Claim7.holds Tryd.pinned (.plain (OpenSpec.ofChange recordLinesSpec)) recordLinesCard

/-- THE TIED CARD OF 'abacistlaw04.CodecPlaces'. -/
def codecPlacesCard : Claim7 := { stood := { row := codecPlacesRow, standIns := [], harness := (true, "8baf4567e59a94612e3a177372636c75f72025906b542ef04cd9e6970fa3bae9"), looks := true }, kinds := [], alts := [], laidByText := true, laidKinds := [.data, .data, .data, .data, .pinned], laidTests := true, laidLooks := .later }
def CodecPlacesCardSaid : Prop := Claim7.holds Tryd.pinned (.plain (OpenSpec.ofChange codecPlacesSpec)) codecPlacesCard

/-- THE TIED CARD OF 'abacistlaw04.CodecForms'. -/
def codecFormsCard : Claim7 := { stood := { row := codecFormsRow, standIns := [], harness := (true, "8baf4567e59a94612e3a177372636c75f72025906b542ef04cd9e6970fa3bae9"), looks := true }, kinds := [], alts := [], laidByText := true, laidKinds := [.data, .data, .data, .data, .pinned], laidTests := true, laidLooks := .later }
def CodecFormsCardSaid : Prop := Claim7.holds Tryd.pinned (.plain (OpenSpec.ofChange codecFormsSpec)) codecFormsCard

/-- THE TIED CARD OF 'abacistlaw38.GenLines'. -/
def genLinesCard : Claim7 := { stood := { row := genLinesRow, standIns := [], harness := (true, "8baf4567e59a94612e3a177372636c75f72025906b542ef04cd9e6970fa3bae9"), looks := true }, kinds := [], alts := [], laidByText := true, laidKinds := [.data, .data, .data, .data, .data, .pinned], laidTests := true, laidLooks := .later }
def GenLinesCardSaid : Prop := Claim7.holds Tryd.pinned (.plain (OpenSpec.ofChange genLinesSpec)) genLinesCard

/-- THE SECOND FORM's CARD OF 'abacistlaw20.RecordForms'. -/
def recordFormsUptoCard : Claim7 := { stood := { row := recordFormsUptoRow, standIns := [], harness := (true, "8baf4567e59a94612e3a177372636c75f72025906b542ef04cd9e6970fa3bae9"), looks := true }, kinds := [], alts := [], laidByText := true, laidKinds := [.data, .data, .data, .data, .data, .pinned], laidTests := true, laidLooks := .later }
def RecordFormsUptoCardSaid : Prop := Claim7.holds Tryd.pinned (.plain (OpenSpec.upto recordFormsSpec)) recordFormsUptoCard

/-- THE SECOND FORM's CARD OF 'abacistlaw20.RecordTurned'. -/
def recordTurnedUptoCard : Claim7 := { stood := { row := recordTurnedUptoRow, standIns := [], harness := (true, "8baf4567e59a94612e3a177372636c75f72025906b542ef04cd9e6970fa3bae9"), looks := true }, kinds := [], alts := [], laidByText := true, laidKinds := [.data, .data, .data, .data, .data, .pinned], laidTests := true, laidLooks := .later }
def RecordTurnedUptoCardSaid : Prop := Claim7.holds Tryd.pinned (.plain (OpenSpec.upto recordTurnedSpec)) recordTurnedUptoCard

/-- THE SECOND FORM's CARD OF 'abacistlaw23.PassBack'. -/
def passBackUptoCard : Claim7 := { stood := { row := passBackUptoRow, standIns := [], harness := (true, "8baf4567e59a94612e3a177372636c75f72025906b542ef04cd9e6970fa3bae9"), looks := true }, kinds := [], alts := [], laidByText := true, laidKinds := [.data, .data], laidTests := true, laidLooks := .later }
def PassBackUptoCardSaid : Prop := Claim7.holds Tryd.pinned (.plain (OpenSpec.upto passBackSpec)) passBackUptoCard

/-- THE SECOND FORM's CARD OF 'abacistlaw23.PassCosts'. -/
def passCostsUptoCard : Claim7 := { stood := { row := passCostsUptoRow, standIns := [], harness := (true, "8baf4567e59a94612e3a177372636c75f72025906b542ef04cd9e6970fa3bae9"), looks := true }, kinds := [], alts := [], laidByText := true, laidKinds := [.data, .data], laidTests := true, laidLooks := .later }
def PassCostsUptoCardSaid : Prop := Claim7.holds Tryd.pinned (.plain (OpenSpec.upto passCostsSpec)) passCostsUptoCard

/-- THE SECOND FORM's CARD OF 'abacistlaw04.CodecTexts'. -/
def codecTextsUptoCard : Claim7 := { stood := { row := codecTextsUptoRow, standIns := [], harness := (true, "8baf4567e59a94612e3a177372636c75f72025906b542ef04cd9e6970fa3bae9"), looks := true }, kinds := [], alts := [], laidByText := true, laidKinds := [.data, .data, .data, .data, .pinned], laidTests := true, laidLooks := .later }
def CodecTextsUptoCardSaid : Prop := Claim7.holds Tryd.pinned (.plain (OpenSpec.upto codecTextsSpec)) codecTextsUptoCard

/-- THE SECOND FORM's CARD OF 'abacistlaw20.RecordLines'. -/
def recordLinesUptoCard : Claim7 := { stood := { row := recordLinesUptoRow, standIns := [], harness := (true, "8baf4567e59a94612e3a177372636c75f72025906b542ef04cd9e6970fa3bae9"), looks := true }, kinds := [], alts := [], laidByText := true, laidKinds := [.data, .data, .data, .data, .sentinel, .sentinel, .data, .pinned], laidTests := true, laidLooks := .later }
def RecordLinesUptoCardSaid : Prop := Claim7.holds Tryd.pinned (.plain (OpenSpec.upto recordLinesSpec)) recordLinesUptoCard

/-- THE SECOND FORM's CARD OF 'abacistlaw04.CodecPlaces'. -/
def codecPlacesUptoCard : Claim7 := { stood := { row := codecPlacesUptoRow, standIns := [], harness := (true, "8baf4567e59a94612e3a177372636c75f72025906b542ef04cd9e6970fa3bae9"), looks := true }, kinds := [], alts := [], laidByText := true, laidKinds := [.data, .data, .data, .data, .pinned], laidTests := true, laidLooks := .later }
def CodecPlacesUptoCardSaid : Prop := Claim7.holds Tryd.pinned (.plain (OpenSpec.upto codecPlacesSpec)) codecPlacesUptoCard

/-- THE SECOND FORM's CARD OF 'abacistlaw04.CodecForms'. -/
def codecFormsUptoCard : Claim7 := { stood := { row := codecFormsUptoRow, standIns := [], harness := (true, "8baf4567e59a94612e3a177372636c75f72025906b542ef04cd9e6970fa3bae9"), looks := true }, kinds := [], alts := [], laidByText := true, laidKinds := [.data, .data, .data, .data, .pinned], laidTests := true, laidLooks := .later }
def CodecFormsUptoCardSaid : Prop := Claim7.holds Tryd.pinned (.plain (OpenSpec.upto codecFormsSpec)) codecFormsUptoCard

/-- THE SECOND FORM's CARD OF 'abacistlaw38.GenLines'. -/
def genLinesUptoCard : Claim7 := { stood := { row := genLinesUptoRow, standIns := [], harness := (true, "8baf4567e59a94612e3a177372636c75f72025906b542ef04cd9e6970fa3bae9"), looks := true }, kinds := [], alts := [], laidByText := true, laidKinds := [.data, .data, .data, .data, .data, .pinned], laidTests := true, laidLooks := .later }
def GenLinesUptoCardSaid : Prop := Claim7.holds Tryd.pinned (.plain (OpenSpec.upto genLinesSpec)) genLinesUptoCard
end Rows
end Go.Proofs.YtbnhfcdagoigkaaDoor
