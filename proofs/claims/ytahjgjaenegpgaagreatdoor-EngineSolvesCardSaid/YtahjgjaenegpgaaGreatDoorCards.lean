/-
  DERIVED. GIVEN WITH THE SEED: THE CARDS: each row of YtahjgjaenegpgaaGreatDoorRows.lean that lists a variable, with what it lists TIED to the program's text (the seventh form; the later family's looks); each row that meets fmt, with fmt's text TOLD by the authors' own Lean function (tested against real Go, not proved from fmt's source: count such statements apart). THE CARD IS WHAT COUNTS. Prove the row's statement (the work); the ties are given (YtahjgjaenegpgaaGreatDoorTie.lean); close each card by the builder's one call (the guide's Derived/Test/ToyasCard.lean, 'card_holds'). Laid BY PROGRAM, IN A SANDBOX (cutbox-door.mjs). By AI agents, Wed Nov 11 2026. No macro, syntax, notation, axiom, sorry.
-/
import Derived.Test.YtahjgjaenegpgaaGreatDoorRows
import GoSem.ClaimSeven
namespace Go.Proofs.YtahjgjaenegpgaaGreatDoor
namespace Rows

/-- THE TIED CARD OF 'abacisttop.WholeInput'. -/
def wholeInputCard : Claim7 := { stood := { row := wholeInputRow, standIns := [], harness := (true, "3e8d133ff5f620d360d7da87aa6f8cf8b51d8fe79d186ca56e96b8e50944af23"), looks := false }, kinds := [], alts := [], laidByText := true, laidKinds := [.data, .data, .data, .pinned], laidTests := true, laidLooks := .later }
def WholeInputCardSaid : Prop := Claim7.holds Tryz.pinned (.plain (OpenSpec.ofChange wholeInputSpec)) wholeInputCard

/-- THE TIED CARD OF 'abacisttop.WholeCrashes'. -/
def wholeCrashesCard : Claim7 := { stood := { row := wholeCrashesRow, standIns := [], harness := (true, "3e8d133ff5f620d360d7da87aa6f8cf8b51d8fe79d186ca56e96b8e50944af23"), looks := false }, kinds := [], alts := [], laidByText := true, laidKinds := [.data, .data, .data, .pinned], laidTests := true, laidLooks := .later }
def WholeCrashesCardSaid : Prop := Claim7.holds Tryz.pinned (.plain (OpenSpec.ofChange wholeCrashesSpec)) wholeCrashesCard

/-- THE TIED CARD OF 'abacistlaw26.EngineSolves'. -/
def engineSolvesCard : Claim7 := { stood := { row := engineSolvesRow, standIns := [], harness := (true, "3e8d133ff5f620d360d7da87aa6f8cf8b51d8fe79d186ca56e96b8e50944af23"), looks := false }, kinds := [], alts := [], laidByText := true, laidKinds := [.data, .data, .data, .pinned], laidTests := true, laidLooks := .later }
def EngineSolvesCardSaid : Prop := Claim7.holds Tryz.pinned (.plain (OpenSpec.ofChange engineSolvesSpec)) engineSolvesCard

/-- THE SECOND FORM's CARD OF 'abacisttop.WholeInput'. -/
def wholeInputUptoCard : Claim7 := { stood := { row := wholeInputUptoRow, standIns := [], harness := (true, "3e8d133ff5f620d360d7da87aa6f8cf8b51d8fe79d186ca56e96b8e50944af23"), looks := false }, kinds := [], alts := [], laidByText := true, laidKinds := [.data, .data, .data, .pinned], laidTests := true, laidLooks := .later }
def WholeInputUptoCardSaid : Prop := Claim7.holds Tryz.pinned (.plain (OpenSpec.upto wholeInputSpec)) wholeInputUptoCard

/-- THE SECOND FORM's CARD OF 'abacisttop.WholeCrashes'. -/
def wholeCrashesUptoCard : Claim7 := { stood := { row := wholeCrashesUptoRow, standIns := [], harness := (true, "3e8d133ff5f620d360d7da87aa6f8cf8b51d8fe79d186ca56e96b8e50944af23"), looks := false }, kinds := [], alts := [], laidByText := true, laidKinds := [.data, .data, .data, .pinned], laidTests := true, laidLooks := .later }
def WholeCrashesUptoCardSaid : Prop := Claim7.holds Tryz.pinned (.plain (OpenSpec.upto wholeCrashesSpec)) wholeCrashesUptoCard

/-- THE SECOND FORM's CARD OF 'abacistlaw26.EngineSolves'. -/
def engineSolvesUptoCard : Claim7 := { stood := { row := engineSolvesUptoRow, standIns := [], harness := (true, "3e8d133ff5f620d360d7da87aa6f8cf8b51d8fe79d186ca56e96b8e50944af23"), looks := false }, kinds := [], alts := [], laidByText := true, laidKinds := [.data, .data, .data, .pinned], laidTests := true, laidLooks := .later }
def EngineSolvesUptoCardSaid : Prop := Claim7.holds Tryz.pinned (.plain (OpenSpec.upto engineSolvesSpec)) engineSolvesUptoCard
end Rows
end Go.Proofs.YtahjgjaenegpgaaGreatDoor
