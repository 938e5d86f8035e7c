/-
  DERIVED. GIVEN WITH THE SEED: THE CARDS: each row of YtpdhhkfllkgahaaGreatDoorRows.lean that lists a variable, with what it lists TIED to the program's text (the seventh form; the later family's looks); each row that meets fmt, with fmt's text TOLD by the authors' own Lean function (tested against real Go, not proved from fmt's source: count such statements apart). THE CARD IS WHAT COUNTS. Prove the row's statement (the work); the ties are given (YtpdhhkfllkgahaaGreatDoorTie.lean); close each card by the builder's one call (the guide's Derived/Test/ToyasCard.lean, 'card_holds'). Laid BY PROGRAM, IN A SANDBOX (cutbox-door.mjs). By AI agents, Wed Nov 11 2026. No macro, syntax, notation, axiom, sorry.
-/
import Derived.Test.YtpdhhkfllkgahaaGreatDoorRows
import GoSem.ClaimSeven
namespace Go.Proofs.YtpdhhkfllkgahaaGreatDoor
namespace Rows

/-- THE TIED CARD OF 'auspicelaw07.QueryAnds'. -/
def queryAndsCard : Claim7 := { stood := { row := queryAndsRow, standIns := [], harness := (true, "14534a1734817fe9ab17ccbaed663eee527a3be917698c25d60fdbeb2698ccb5"), looks := true }, kinds := [], alts := [], laidByText := true, laidKinds := [.data, .data, .data, .sentinel, .sentinel, .listed, .data], laidTests := true, laidLooks := .later }
def QueryAndsCardSaid : Prop := Claim7.holds Tryz.pinned (.plain (OpenSpec.ofChange queryAndsSpec)) queryAndsCard

/-- THE TIED CARD OF 'auspicelaw07.QueryTells'. -/
def queryTellsCard : Claim7 := { stood := { row := queryTellsRow, standIns := [], harness := (true, "14534a1734817fe9ab17ccbaed663eee527a3be917698c25d60fdbeb2698ccb5"), looks := true }, kinds := [], alts := [], laidByText := true, laidKinds := [.data, .data, .data, .sentinel, .sentinel, .listed, .data], laidTests := true, laidLooks := .later }
def QueryTellsCardSaid : Prop := Claim7.holds Tryz.pinned (.plain (OpenSpec.ofChange queryTellsSpec)) queryTellsCard

/-- THE TIED CARD OF 'auspicelaw07.QueryBack'. -/
def queryBackCard : Claim7 := { stood := { row := queryBackRow, standIns := [], harness := (true, "14534a1734817fe9ab17ccbaed663eee527a3be917698c25d60fdbeb2698ccb5"), looks := true }, kinds := [], alts := [], laidByText := true, laidKinds := [.data, .data, .data, .sentinel, .sentinel, .listed, .data], laidTests := true, laidLooks := .later }
def QueryBackCardSaid : Prop := Claim7.holds Tryz.pinned (.plain (OpenSpec.ofChange queryBackSpec)) queryBackCard

/-- THE SECOND FORM's CARD OF 'auspicelaw07.QueryAnds'. -/
def queryAndsUptoCard : Claim7 := { stood := { row := queryAndsUptoRow, standIns := [], harness := (true, "14534a1734817fe9ab17ccbaed663eee527a3be917698c25d60fdbeb2698ccb5"), looks := true }, kinds := [], alts := [], laidByText := true, laidKinds := [.data, .data, .data, .sentinel, .sentinel, .listed, .data], laidTests := true, laidLooks := .later }
def QueryAndsUptoCardSaid : Prop := Claim7.holds Tryz.pinned (.plain (OpenSpec.upto queryAndsSpec)) queryAndsUptoCard

/-- THE SECOND FORM's CARD OF 'auspicelaw07.QueryTells'. -/
def queryTellsUptoCard : Claim7 := { stood := { row := queryTellsUptoRow, standIns := [], harness := (true, "14534a1734817fe9ab17ccbaed663eee527a3be917698c25d60fdbeb2698ccb5"), looks := true }, kinds := [], alts := [], laidByText := true, laidKinds := [.data, .data, .data, .sentinel, .sentinel, .listed, .data], laidTests := true, laidLooks := .later }
def QueryTellsUptoCardSaid : Prop := Claim7.holds Tryz.pinned (.plain (OpenSpec.upto queryTellsSpec)) queryTellsUptoCard

/-- THE SECOND FORM's CARD OF 'auspicelaw07.QueryBack'. -/
def queryBackUptoCard : Claim7 := { stood := { row := queryBackUptoRow, standIns := [], harness := (true, "14534a1734817fe9ab17ccbaed663eee527a3be917698c25d60fdbeb2698ccb5"), looks := true }, kinds := [], alts := [], laidByText := true, laidKinds := [.data, .data, .data, .sentinel, .sentinel, .listed, .data], laidTests := true, laidLooks := .later }
def QueryBackUptoCardSaid : Prop := Claim7.holds Tryz.pinned (.plain (OpenSpec.upto queryBackSpec)) queryBackUptoCard
end Rows
end Go.Proofs.YtpdhhkfllkgahaaGreatDoor
