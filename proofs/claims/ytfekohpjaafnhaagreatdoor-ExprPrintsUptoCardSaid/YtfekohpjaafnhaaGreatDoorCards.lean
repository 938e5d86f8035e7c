/-
  DERIVED. GIVEN WITH THE SEED: THE CARDS: each row of YtfekohpjaafnhaaGreatDoorRows.lean that lists a variable, with what it lists TIED to the program's text (the seventh form; the later family's looks); each row that meets fmt, with fmt's text TOLD by the authors' own Lean function (tested against real Go, not proved from fmt's source: count such statements apart). THE CARD IS WHAT COUNTS. Prove the row's statement (the work); the ties are given (YtfekohpjaafnhaaGreatDoorTie.lean); close each card by the builder's one call (the guide's Derived/Test/ToyasCard.lean, 'card_holds'). Laid BY PROGRAM, IN A SANDBOX (cutbox-door.mjs). By AI agents, Wed Nov 11 2026. No macro, syntax, notation, axiom, sorry.
-/
import Derived.Test.YtfekohpjaafnhaaGreatDoorRows
import GoSem.ClaimSeven
namespace Go.Proofs.YtfekohpjaafnhaaGreatDoor
namespace Rows

/-- THE TIED CARD OF 'auspicelaw06.ExprParses'. -/
def exprParsesCard : Claim7 := { stood := { row := exprParsesRow, standIns := [], harness := (true, "63ba89ebd7b1452b65c42fd8ff87326eb3957a3fcbbb189733e6d5b4c2b5795a"), looks := true }, kinds := [], alts := [], laidByText := true, laidKinds := [.data, .data, .data, .sentinel, .sentinel, .listed, .data], laidTests := true, laidLooks := .later }
def ExprParsesCardSaid : Prop := Claim7.holds Tryz.pinned (.plain (OpenSpec.ofChange exprParsesSpec)) exprParsesCard

/-- THE TIED CARD OF 'auspicelaw06.ExprReads'. -/
def exprReadsCard : Claim7 := { stood := { row := exprReadsRow, standIns := [], harness := (true, "63ba89ebd7b1452b65c42fd8ff87326eb3957a3fcbbb189733e6d5b4c2b5795a"), looks := true }, kinds := [], alts := [], laidByText := true, laidKinds := [.data, .data, .data, .sentinel, .sentinel, .listed, .data], laidTests := true, laidLooks := .later }
def ExprReadsCardSaid : Prop := Claim7.holds Tryz.pinned (.plain (OpenSpec.ofChange exprReadsSpec)) exprReadsCard

/-- THE TIED CARD OF 'auspicelaw06.ExprPrints'. -/
def exprPrintsCard : Claim7 := { stood := { row := exprPrintsRow, standIns := [], harness := (true, "63ba89ebd7b1452b65c42fd8ff87326eb3957a3fcbbb189733e6d5b4c2b5795a"), looks := true }, kinds := [], alts := [], laidByText := true, laidKinds := [.data, .data, .data, .sentinel, .sentinel, .listed, .data], laidTests := true, laidLooks := .later }
def ExprPrintsCardSaid : Prop := Claim7.holds Tryz.pinned (.plain (OpenSpec.ofChange exprPrintsSpec)) exprPrintsCard

/-- THE SECOND FORM's CARD OF 'auspicelaw06.ExprParses'. -/
def exprParsesUptoCard : Claim7 := { stood := { row := exprParsesUptoRow, standIns := [], harness := (true, "63ba89ebd7b1452b65c42fd8ff87326eb3957a3fcbbb189733e6d5b4c2b5795a"), looks := true }, kinds := [], alts := [], laidByText := true, laidKinds := [.data, .data, .data, .sentinel, .sentinel, .listed, .data], laidTests := true, laidLooks := .later }
def ExprParsesUptoCardSaid : Prop := Claim7.holds Tryz.pinned (.plain (OpenSpec.upto exprParsesSpec)) exprParsesUptoCard

/-- THE SECOND FORM's CARD OF 'auspicelaw06.ExprReads'. -/
def exprReadsUptoCard : Claim7 := { stood := { row := exprReadsUptoRow, standIns := [], harness := (true, "63ba89ebd7b1452b65c42fd8ff87326eb3957a3fcbbb189733e6d5b4c2b5795a"), looks := true }, kinds := [], alts := [], laidByText := true, laidKinds := [.data, .data, .data, .sentinel, .sentinel, .listed, .data], laidTests := true, laidLooks := .later }
def ExprReadsUptoCardSaid : Prop := Claim7.holds Tryz.pinned (.plain (OpenSpec.upto exprReadsSpec)) exprReadsUptoCard

/-- THE SECOND FORM's CARD OF 'auspicelaw06.ExprPrints'. -/
def exprPrintsUptoCard : Claim7 := { stood := { row := exprPrintsUptoRow, standIns := [], harness := (true, "63ba89ebd7b1452b65c42fd8ff87326eb3957a3fcbbb189733e6d5b4c2b5795a"), looks := true }, kinds := [], alts := [], laidByText := true, laidKinds := [.data, .data, .data, .sentinel, .sentinel, .listed, .data], laidTests := true, laidLooks := .later }
def ExprPrintsUptoCardSaid : Prop := Claim7.holds Tryz.pinned (.plain (OpenSpec.upto exprPrintsSpec)) exprPrintsUptoCard
end Rows
end Go.Proofs.YtfekohpjaafnhaaGreatDoor
