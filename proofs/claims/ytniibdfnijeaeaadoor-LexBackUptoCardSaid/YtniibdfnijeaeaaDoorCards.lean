/-
  DERIVED. GIVEN WITH THE SEED: THE CARDS: each row of YtniibdfnijeaeaaDoorRows.lean that lists a variable, with what it lists TIED to the program's text (the seventh form; the later family's looks); each row that meets fmt, with fmt's text TOLD by the authors' own Lean function (tested against real Go, not proved from fmt's source: count such statements apart). THE CARD IS WHAT COUNTS. Prove the row's statement (the work); the ties are given (YtniibdfnijeaeaaDoorTie.lean); close each card by the builder's one call (the guide's Derived/Test/ToyasCard.lean, 'card_holds'). Laid BY PROGRAM, IN A SANDBOX (cutbox-door.mjs). By AI agents, Wed Nov 11 2026. No macro, syntax, notation, axiom, sorry.
-/
import Derived.Test.YtniibdfnijeaeaaDoorRows
import GoSem.ClaimSeven
namespace Go.Proofs.YtniibdfnijeaeaaDoor
namespace Rows

/-- THE TIED CARD OF 'auspicelaw05.LexScans'. -/
def lexScansCard : Claim7 := { stood := { row := lexScansRow, standIns := [], harness := (true, "4100ed0d3afc9f40601647e42659338bffb56437ef0e626f9dd8f404e0ef32fe"), looks := true }, kinds := [], alts := [], laidByText := true, laidKinds := [.data, .data, .data, .sentinel, .sentinel], laidTests := true, laidLooks := .later }
def LexScansCardSaid : Prop := Claim7.holds Tryd.pinned (.plain (OpenSpec.ofChange lexScansSpec)) lexScansCard

/-- THE TIED CARD OF 'auspicelaw05.LexBlanks'. -/
def lexBlanksCard : Claim7 := { stood := { row := lexBlanksRow, standIns := [], harness := (true, "4100ed0d3afc9f40601647e42659338bffb56437ef0e626f9dd8f404e0ef32fe"), looks := true }, kinds := [], alts := [], laidByText := true, laidKinds := [.data, .data, .data, .sentinel, .sentinel], laidTests := true, laidLooks := .later }
def LexBlanksCardSaid : Prop := Claim7.holds Tryd.pinned (.plain (OpenSpec.ofChange lexBlanksSpec)) lexBlanksCard

/-- THE TIED CARD OF 'auspicelaw05.LexCuts'. -/
def lexCutsCard : Claim7 := { stood := { row := lexCutsRow, standIns := [], harness := (true, "4100ed0d3afc9f40601647e42659338bffb56437ef0e626f9dd8f404e0ef32fe"), looks := true }, kinds := [], alts := [], laidByText := true, laidKinds := [.data, .data, .data, .sentinel, .sentinel], laidTests := true, laidLooks := .later }
def LexCutsCardSaid : Prop := Claim7.holds Tryd.pinned (.plain (OpenSpec.ofChange lexCutsSpec)) lexCutsCard

/-- THE TIED CARD OF 'auspicelaw05.LexSpells'. -/
def lexSpellsCard : Claim7 := { stood := { row := lexSpellsRow, standIns := [], harness := (true, "4100ed0d3afc9f40601647e42659338bffb56437ef0e626f9dd8f404e0ef32fe"), looks := true }, kinds := [], alts := [], laidByText := true, laidKinds := [.data, .data, .data, .sentinel, .sentinel], laidTests := true, laidLooks := .later }
def LexSpellsCardSaid : Prop := Claim7.holds Tryd.pinned (.plain (OpenSpec.ofChange lexSpellsSpec)) lexSpellsCard

/-- THE TIED CARD OF 'auspicelaw05.LexBack'. -/
def lexBackCard : Claim7 := { stood := { row := lexBackRow, standIns := [], harness := (true, "4100ed0d3afc9f40601647e42659338bffb56437ef0e626f9dd8f404e0ef32fe"), looks := true }, kinds := [], alts := [], laidByText := true, laidKinds := [.data, .data, .data, .sentinel, .sentinel], laidTests := true, laidLooks := .later }
def LexBackCardSaid : Prop := Claim7.holds Tryd.pinned (.plain (OpenSpec.ofChange lexBackSpec)) lexBackCard

/-- THE SECOND FORM's CARD OF 'auspicelaw05.LexScans'. -/
def lexScansUptoCard : Claim7 := { stood := { row := lexScansUptoRow, standIns := [], harness := (true, "4100ed0d3afc9f40601647e42659338bffb56437ef0e626f9dd8f404e0ef32fe"), looks := true }, kinds := [], alts := [], laidByText := true, laidKinds := [.data, .data, .data, .sentinel, .sentinel], laidTests := true, laidLooks := .later }
def LexScansUptoCardSaid : Prop := Claim7.holds Tryd.pinned (.plain (OpenSpec.upto lexScansSpec)) lexScansUptoCard

/-- THE SECOND FORM's CARD OF 'auspicelaw05.LexBlanks'. -/
def lexBlanksUptoCard : Claim7 := { stood := { row := lexBlanksUptoRow, standIns := [], harness := (true, "4100ed0d3afc9f40601647e42659338bffb56437ef0e626f9dd8f404e0ef32fe"), looks := true }, kinds := [], alts := [], laidByText := true, laidKinds := [.data, .data, .data, .sentinel, .sentinel], laidTests := true, laidLooks := .later }
def LexBlanksUptoCardSaid : Prop := Claim7.holds Tryd.pinned (.plain (OpenSpec.upto lexBlanksSpec)) lexBlanksUptoCard

/-- THE SECOND FORM's CARD OF 'auspicelaw05.LexCuts'. -/
def lexCutsUptoCard : Claim7 := { stood := { row := lexCutsUptoRow, standIns := [], harness := (true, "4100ed0d3afc9f40601647e42659338bffb56437ef0e626f9dd8f404e0ef32fe"), looks := true }, kinds := [], alts := [], laidByText := true, laidKinds := [.data, .data, .data, .sentinel, .sentinel], laidTests := true, laidLooks := .later }
def LexCutsUptoCardSaid : Prop := Claim7.holds Tryd.pinned (.plain (OpenSpec.upto lexCutsSpec)) lexCutsUptoCard

/-- THE SECOND FORM's CARD OF 'auspicelaw05.LexSpells'. -/
def lexSpellsUptoCard : Claim7 := { stood := { row := lexSpellsUptoRow, standIns := [], harness := (true, "4100ed0d3afc9f40601647e42659338bffb56437ef0e626f9dd8f404e0ef32fe"), looks := true }, kinds := [], alts := [], laidByText := true, laidKinds := [.data, .data, .data, .sentinel, .sentinel], laidTests := true, laidLooks := .later }
def LexSpellsUptoCardSaid : Prop := Claim7.holds Tryd.pinned (.plain (OpenSpec.upto lexSpellsSpec)) lexSpellsUptoCard

/-- THE SECOND FORM's CARD OF 'auspicelaw05.LexBack'. -/
def lexBackUptoCard : Claim7 := { stood := { row := lexBackUptoRow, standIns := [], harness := (true, "4100ed0d3afc9f40601647e42659338bffb56437ef0e626f9dd8f404e0ef32fe"), looks := true }, kinds := [], alts := [], laidByText := true, laidKinds := [.data, .data, .data, .sentinel, .sentinel], laidTests := true, laidLooks := .later }
def LexBackUptoCardSaid : Prop := Claim7.holds Tryd.pinned (.plain (OpenSpec.upto lexBackSpec)) lexBackUptoCard
end Rows
end Go.Proofs.YtniibdfnijeaeaaDoor
