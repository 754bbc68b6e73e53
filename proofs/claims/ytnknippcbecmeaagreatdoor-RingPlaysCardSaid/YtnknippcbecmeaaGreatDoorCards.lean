/-
  DERIVED. GIVEN WITH THE SEED: THE CARDS: each row of YtnknippcbecmeaaGreatDoorRows.lean that lists a variable, with what it lists TIED to the program's text (the seventh form; the later family's looks); each row that meets fmt, with fmt's text TOLD by the authors' own Lean function (tested against real Go, not proved from fmt's source: count such statements apart). THE CARD IS WHAT COUNTS. Prove the row's statement (the work); the ties are given (YtnknippcbecmeaaGreatDoorTie.lean); close each card by the builder's one call (the guide's Derived/Test/ToyasCard.lean, 'card_holds'). Laid BY PROGRAM, IN A SANDBOX (cutbox-door.mjs). By AI agents, Wed Nov 11 2026. No macro, syntax, notation, axiom, sorry.
-/
import Derived.Test.YtnknippcbecmeaaGreatDoorRows
import GoSem.ClaimSeven
namespace Go.Proofs.YtnknippcbecmeaaGreatDoor
namespace Rows

/-- THE TIED CARD OF 'abacistlaw25.ExecAll'. -/
def execAllCard : Claim7 := { stood := { row := execAllRow, standIns := [], harness := (true, "16e05288eadbf2ca55e3f45923da7aa91a8b697a44a24c2afd15083d883e3703"), looks := false }, kinds := [], alts := [], laidByText := true, laidKinds := [.data, .data], laidTests := true, laidLooks := .later }
def ExecAllCardSaid : Prop := Claim7.holds Tryz.pinned (.plain (OpenSpec.ofChange execAllSpec)) execAllCard

/-- THE TIED CARD OF 'abacistlaw21.RingPlays'. -/
def ringPlaysCard : Claim7 := { stood := { row := ringPlaysRow, standIns := [], harness := (true, "16e05288eadbf2ca55e3f45923da7aa91a8b697a44a24c2afd15083d883e3703"), looks := false }, kinds := [], alts := [], laidByText := true, laidKinds := [.data, .pinned], laidTests := true, laidLooks := .later }
def RingPlaysCardSaid : Prop := Claim7.holds Tryz.pinned (.plain (OpenSpec.ofChange ringPlaysSpec)) ringPlaysCard

/-- THE SECOND FORM's CARD OF 'abacistlaw25.ExecAll'. -/
def execAllUptoCard : Claim7 := { stood := { row := execAllUptoRow, standIns := [], harness := (true, "16e05288eadbf2ca55e3f45923da7aa91a8b697a44a24c2afd15083d883e3703"), looks := false }, kinds := [], alts := [], laidByText := true, laidKinds := [.data, .data], laidTests := true, laidLooks := .later }
def ExecAllUptoCardSaid : Prop := Claim7.holds Tryz.pinned (.plain (OpenSpec.upto execAllSpec)) execAllUptoCard

/-- THE SECOND FORM's CARD OF 'abacistlaw21.RingPlays'. -/
def ringPlaysUptoCard : Claim7 := { stood := { row := ringPlaysUptoRow, standIns := [], harness := (true, "16e05288eadbf2ca55e3f45923da7aa91a8b697a44a24c2afd15083d883e3703"), looks := false }, kinds := [], alts := [], laidByText := true, laidKinds := [.data, .pinned], laidTests := true, laidLooks := .later }
def RingPlaysUptoCardSaid : Prop := Claim7.holds Tryz.pinned (.plain (OpenSpec.upto ringPlaysSpec)) ringPlaysUptoCard
end Rows
end Go.Proofs.YtnknippcbecmeaaGreatDoor
