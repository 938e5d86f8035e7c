/-
  DERIVED. GIVEN WITH THE SEED: THE CARDS: each row of YtiidbmpnjdjlnaaGreatDoorRows.lean that lists a variable, with what it lists TIED to the program's text (the seventh form; the later family's looks); each row that meets fmt, with fmt's text TOLD by the authors' own Lean function (tested against real Go, not proved from fmt's source: count such statements apart). THE CARD IS WHAT COUNTS. Prove the row's statement (the work); the ties are given (YtiidbmpnjdjlnaaGreatDoorTie.lean); close each card by the builder's one call (the guide's Derived/Test/ToyasCard.lean, 'card_holds'). Laid BY PROGRAM, IN A SANDBOX (cutbox-door.mjs). By AI agents, Wed Nov 11 2026. No macro, syntax, notation, axiom, sorry.
-/
import Derived.Test.YtiidbmpnjdjlnaaGreatDoorRows
import GoSem.ClaimSeven
namespace Go.Proofs.YtiidbmpnjdjlnaaGreatDoor
namespace Rows

/-- THE TIED CARD OF 'auspicelaw15.StepNil'. -/
def stepNilCard : Claim7 := { stood := { row := stepNilRow, standIns := [], harness := (true, "977f2d4fa0dbd23921f4bd3a7496809dcc9b25b813d39f26255096e4b7958502"), looks := true }, kinds := [], alts := [], laidByText := true, laidKinds := [.data, .data, .data], laidTests := true, laidLooks := .later }
def StepNilCardSaid : Prop := Claim7.holds Tryz.pinned (.plain (OpenSpec.ofChange stepNilSpec)) stepNilCard

/-- THE SECOND FORM's CARD OF 'auspicelaw15.StepNil'. -/
def stepNilUptoCard : Claim7 := { stood := { row := stepNilUptoRow, standIns := [], harness := (true, "977f2d4fa0dbd23921f4bd3a7496809dcc9b25b813d39f26255096e4b7958502"), looks := true }, kinds := [], alts := [], laidByText := true, laidKinds := [.data, .data, .data], laidTests := true, laidLooks := .later }
def StepNilUptoCardSaid : Prop := Claim7.holds Tryz.pinned (.plain (OpenSpec.upto stepNilSpec)) stepNilUptoCard
end Rows
end Go.Proofs.YtiidbmpnjdjlnaaGreatDoor
