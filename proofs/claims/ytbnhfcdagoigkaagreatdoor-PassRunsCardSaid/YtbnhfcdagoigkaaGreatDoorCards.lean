/-
  DERIVED. GIVEN WITH THE SEED: THE CARDS: each row of YtbnhfcdagoigkaaGreatDoorRows.lean that lists a variable, with what it lists TIED to the program's text (the seventh form; the later family's looks); each row that meets fmt, with fmt's text TOLD by the authors' own Lean function (tested against real Go, not proved from fmt's source: count such statements apart). THE CARD IS WHAT COUNTS. Prove the row's statement (the work); the ties are given (YtbnhfcdagoigkaaGreatDoorTie.lean); close each card by the builder's one call (the guide's Derived/Test/ToyasCard.lean, 'card_holds'). Laid BY PROGRAM, IN A SANDBOX (cutbox-door.mjs). By AI agents, Wed Nov 11 2026. No macro, syntax, notation, axiom, sorry.
-/
import Derived.Test.YtbnhfcdagoigkaaGreatDoorRows
import GoSem.ClaimSeven
namespace Go.Proofs.YtbnhfcdagoigkaaGreatDoor
namespace Rows

/-- THE TIED CARD OF 'abacistlaw23.PassRuns'. -/
def passRunsCard : Claim7 := { stood := { row := passRunsRow, standIns := [], harness := (true, "4867900e06f8f44255c7d0d69dbabd9264c6f4047d0304a75f7d49ff31efcbfc"), looks := false }, kinds := [], alts := [], laidByText := true, laidKinds := [.data, .data], laidTests := true, laidLooks := .later }
def PassRunsCardSaid : Prop := Claim7.holds Tryz.pinned (.plain (OpenSpec.ofChange passRunsSpec)) passRunsCard

/-- THE SECOND FORM's CARD OF 'abacistlaw23.PassRuns'. -/
def passRunsUptoCard : Claim7 := { stood := { row := passRunsUptoRow, standIns := [], harness := (true, "4867900e06f8f44255c7d0d69dbabd9264c6f4047d0304a75f7d49ff31efcbfc"), looks := false }, kinds := [], alts := [], laidByText := true, laidKinds := [.data, .data], laidTests := true, laidLooks := .later }
def PassRunsUptoCardSaid : Prop := Claim7.holds Tryz.pinned (.plain (OpenSpec.upto passRunsSpec)) passRunsUptoCard
end Rows
end Go.Proofs.YtbnhfcdagoigkaaGreatDoor
