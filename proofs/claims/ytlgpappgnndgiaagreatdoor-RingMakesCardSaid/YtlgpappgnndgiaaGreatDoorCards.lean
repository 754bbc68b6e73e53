/-
  DERIVED. GIVEN WITH THE SEED: THE CARDS: each row of YtlgpappgnndgiaaGreatDoorRows.lean that lists a variable, with what it lists TIED to the program's text (the seventh form; the later family's looks); each row that meets fmt, with fmt's text TOLD by the authors' own Lean function (tested against real Go, not proved from fmt's source: count such statements apart). THE CARD IS WHAT COUNTS. Prove the row's statement (the work); the ties are given (YtlgpappgnndgiaaGreatDoorTie.lean); close each card by the builder's one call (the guide's Derived/Test/ToyasCard.lean, 'card_holds'). Laid BY PROGRAM, IN A SANDBOX (cutbox-door.mjs). By AI agents, Wed Nov 11 2026. No macro, syntax, notation, axiom, sorry.
-/
import Derived.Test.YtlgpappgnndgiaaGreatDoorRows
import GoSem.ClaimSeven
namespace Go.Proofs.YtlgpappgnndgiaaGreatDoor
namespace Rows

/-- THE TIED CARD OF 'abacistlaw25.ExecAll'. -/
def execAllCard : Claim7 := { stood := { row := execAllRow, standIns := [], harness := (true, "5655a38b66210111165de80fed2f90d10ad33971d943f2d19a22b7aebb898712"), looks := false }, kinds := [], alts := [], laidByText := true, laidKinds := [.data, .data], laidTests := true, laidLooks := .later }
def ExecAllCardSaid : Prop := Claim7.holds Tryz.pinned (.plain (OpenSpec.ofChange execAllSpec)) execAllCard

/-- THE TIED CARD OF 'abacistlaw21.RingMakes'. -/
def ringMakesCard : Claim7 := { stood := { row := ringMakesRow, standIns := [], harness := (true, "5655a38b66210111165de80fed2f90d10ad33971d943f2d19a22b7aebb898712"), looks := false }, kinds := [], alts := [], laidByText := true, laidKinds := [.data, .pinned], laidTests := true, laidLooks := .later }
def RingMakesCardSaid : Prop := Claim7.holds Tryz.pinned (.plain (OpenSpec.ofChange ringMakesSpec)) ringMakesCard

/-- THE TIED CARD OF 'abacistlaw21.RingSafe'. -/
def ringSafeCard : Claim7 := { stood := { row := ringSafeRow, standIns := [], harness := (true, "5655a38b66210111165de80fed2f90d10ad33971d943f2d19a22b7aebb898712"), looks := false }, kinds := [], alts := [], laidByText := true, laidKinds := [.data, .pinned], laidTests := true, laidLooks := .later }
def RingSafeCardSaid : Prop := Claim7.holds Tryz.pinned (.plain (OpenSpec.ofChange ringSafeSpec)) ringSafeCard

/-- THE TIED CARD OF 'abacistlaw21.RingPlays'. -/
def ringPlaysCard : Claim7 := { stood := { row := ringPlaysRow, standIns := [], harness := (true, "5655a38b66210111165de80fed2f90d10ad33971d943f2d19a22b7aebb898712"), looks := false }, kinds := [], alts := [], laidByText := true, laidKinds := [.data, .pinned], laidTests := true, laidLooks := .later }
def RingPlaysCardSaid : Prop := Claim7.holds Tryz.pinned (.plain (OpenSpec.ofChange ringPlaysSpec)) ringPlaysCard

/-- THE TIED CARD OF 'abacistlaw35.InspectWords'. -/
def inspectWordsCard : Claim7 := { stood := { row := inspectWordsRow, standIns := [], harness := (true, "5655a38b66210111165de80fed2f90d10ad33971d943f2d19a22b7aebb898712"), looks := false }, kinds := [], alts := [], laidByText := true, laidKinds := [.data, .data, .data, .data, .data, .pinned], laidTests := true, laidLooks := .later }
def InspectWordsCardSaid : Prop := Claim7.holds Tryz.pinned (.plain (OpenSpec.ofChange inspectWordsSpec)) inspectWordsCard

/-- THE SECOND FORM's CARD OF 'abacistlaw25.ExecAll'. -/
def execAllUptoCard : Claim7 := { stood := { row := execAllUptoRow, standIns := [], harness := (true, "5655a38b66210111165de80fed2f90d10ad33971d943f2d19a22b7aebb898712"), looks := false }, kinds := [], alts := [], laidByText := true, laidKinds := [.data, .data], laidTests := true, laidLooks := .later }
def ExecAllUptoCardSaid : Prop := Claim7.holds Tryz.pinned (.plain (OpenSpec.upto execAllSpec)) execAllUptoCard

/-- THE SECOND FORM's CARD OF 'abacistlaw21.RingMakes'. -/
def ringMakesUptoCard : Claim7 := { stood := { row := ringMakesUptoRow, standIns := [], harness := (true, "5655a38b66210111165de80fed2f90d10ad33971d943f2d19a22b7aebb898712"), looks := false }, kinds := [], alts := [], laidByText := true, laidKinds := [.data, .pinned], laidTests := true, laidLooks := .later }
def RingMakesUptoCardSaid : Prop := Claim7.holds Tryz.pinned (.plain (OpenSpec.upto ringMakesSpec)) ringMakesUptoCard

/-- THE SECOND FORM's CARD OF 'abacistlaw21.RingSafe'. -/
def ringSafeUptoCard : Claim7 := { stood := { row := ringSafeUptoRow, standIns := [], harness := (true, "5655a38b66210111165de80fed2f90d10ad33971d943f2d19a22b7aebb898712"), looks := false }, kinds := [], alts := [], laidByText := true, laidKinds := [.data, .pinned], laidTests := true, laidLooks := .later }
def RingSafeUptoCardSaid : Prop := Claim7.holds Tryz.pinned (.plain (OpenSpec.upto ringSafeSpec)) ringSafeUptoCard

/-- THE SECOND FORM's CARD OF 'abacistlaw21.RingPlays'. -/
def ringPlaysUptoCard : Claim7 := { stood := { row := ringPlaysUptoRow, standIns := [], harness := (true, "5655a38b66210111165de80fed2f90d10ad33971d943f2d19a22b7aebb898712"), looks := false }, kinds := [], alts := [], laidByText := true, laidKinds := [.data, .pinned], laidTests := true, laidLooks := .later }
def RingPlaysUptoCardSaid : Prop := Claim7.holds Tryz.pinned (.plain (OpenSpec.upto ringPlaysSpec)) ringPlaysUptoCard

/-- THE SECOND FORM's CARD OF 'abacistlaw35.InspectWords'. -/
def inspectWordsUptoCard : Claim7 := { stood := { row := inspectWordsUptoRow, standIns := [], harness := (true, "5655a38b66210111165de80fed2f90d10ad33971d943f2d19a22b7aebb898712"), looks := false }, kinds := [], alts := [], laidByText := true, laidKinds := [.data, .data, .data, .data, .data, .pinned], laidTests := true, laidLooks := .later }
def InspectWordsUptoCardSaid : Prop := Claim7.holds Tryz.pinned (.plain (OpenSpec.upto inspectWordsSpec)) inspectWordsUptoCard
end Rows
end Go.Proofs.YtlgpappgnndgiaaGreatDoor
