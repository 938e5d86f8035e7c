/-
  DERIVED. GIVEN WITH THE SEED: THE CARDS: each row of YtnnhdcidgfjfpaaGreatDoorRows.lean that lists a variable, with what it lists TIED to the program's text (the seventh form; the later family's looks); each row that meets fmt, with fmt's text TOLD by the authors' own Lean function (tested against real Go, not proved from fmt's source: count such statements apart). THE CARD IS WHAT COUNTS. Prove the row's statement (the work); the ties are given (YtnnhdcidgfjfpaaGreatDoorTie.lean); close each card by the builder's one call (the guide's Derived/Test/ToyasCard.lean, 'card_holds'). Laid BY PROGRAM, IN A SANDBOX (cutbox-door.mjs). By AI agents, Wed Nov 11 2026. No macro, syntax, notation, axiom, sorry.
-/
import Derived.Test.YtnnhdcidgfjfpaaGreatDoorRows
import GoSem.ClaimSeven
namespace Go.Proofs.YtnnhdcidgfjfpaaGreatDoor
namespace Rows

/-- THE TIED CARD OF 'auspicelaw08.PlanPlaces'. -/
def planPlacesCard : Claim7 := { stood := { row := planPlacesRow, standIns := [], harness := (true, "be7b114b92308d517cb47bba5e4f36e4b5b83473b1df23df048f570f1fe14625"), looks := true }, kinds := [], alts := [], laidByText := true, laidKinds := [.data, .data, .data], laidTests := true, laidLooks := .later }
def PlanPlacesCardSaid : Prop := Claim7.holds Tryz.pinned (.plain (OpenSpec.ofChange planPlacesSpec)) planPlacesCard

/-- THE TIED CARD OF 'auspicelaw08.PlanOrder'. -/
def planOrderCard : Claim7 := { stood := { row := planOrderRow, standIns := [], harness := (true, "be7b114b92308d517cb47bba5e4f36e4b5b83473b1df23df048f570f1fe14625"), looks := true }, kinds := [], alts := [], laidByText := true, laidKinds := [.data, .data, .data], laidTests := true, laidLooks := .later }
def PlanOrderCardSaid : Prop := Claim7.holds Tryz.pinned (.plain (OpenSpec.ofChange planOrderSpec)) planOrderCard

/-- THE TIED CARD OF 'auspicelaw08.PlanNames'. -/
def planNamesCard : Claim7 := { stood := { row := planNamesRow, standIns := [], harness := (true, "be7b114b92308d517cb47bba5e4f36e4b5b83473b1df23df048f570f1fe14625"), looks := true }, kinds := [], alts := [], laidByText := true, laidKinds := [.data, .data, .data], laidTests := true, laidLooks := .later }
def PlanNamesCardSaid : Prop := Claim7.holds Tryz.pinned (.plain (OpenSpec.ofChange planNamesSpec)) planNamesCard

/-- THE TIED CARD OF 'auspicelaw08.PlanMakes'. -/
def planMakesCard : Claim7 := { stood := { row := planMakesRow, standIns := [], harness := (true, "be7b114b92308d517cb47bba5e4f36e4b5b83473b1df23df048f570f1fe14625"), looks := true }, kinds := [], alts := [], laidByText := true, laidKinds := [.data, .data, .data], laidTests := true, laidLooks := .later }
def PlanMakesCardSaid : Prop := Claim7.holds Tryz.pinned (.plain (OpenSpec.ofChange planMakesSpec)) planMakesCard

/-- THE TIED CARD OF 'auspicelaw08.PlanTells'. -/
def planTellsCard : Claim7 := { stood := { row := planTellsRow, standIns := [], harness := (true, "be7b114b92308d517cb47bba5e4f36e4b5b83473b1df23df048f570f1fe14625"), looks := true }, kinds := [], alts := [], laidByText := true, laidKinds := [.data, .data, .data], laidTests := true, laidLooks := .later }
def PlanTellsCardSaid : Prop := Claim7.holds Tryz.pinned (.plain (OpenSpec.ofChange planTellsSpec)) planTellsCard

/-- THE SECOND FORM's CARD OF 'auspicelaw08.PlanPlaces'. -/
def planPlacesUptoCard : Claim7 := { stood := { row := planPlacesUptoRow, standIns := [], harness := (true, "be7b114b92308d517cb47bba5e4f36e4b5b83473b1df23df048f570f1fe14625"), looks := true }, kinds := [], alts := [], laidByText := true, laidKinds := [.data, .data, .data], laidTests := true, laidLooks := .later }
def PlanPlacesUptoCardSaid : Prop := Claim7.holds Tryz.pinned (.plain (OpenSpec.upto planPlacesSpec)) planPlacesUptoCard

/-- THE SECOND FORM's CARD OF 'auspicelaw08.PlanOrder'. -/
def planOrderUptoCard : Claim7 := { stood := { row := planOrderUptoRow, standIns := [], harness := (true, "be7b114b92308d517cb47bba5e4f36e4b5b83473b1df23df048f570f1fe14625"), looks := true }, kinds := [], alts := [], laidByText := true, laidKinds := [.data, .data, .data], laidTests := true, laidLooks := .later }
def PlanOrderUptoCardSaid : Prop := Claim7.holds Tryz.pinned (.plain (OpenSpec.upto planOrderSpec)) planOrderUptoCard

/-- THE SECOND FORM's CARD OF 'auspicelaw08.PlanNames'. -/
def planNamesUptoCard : Claim7 := { stood := { row := planNamesUptoRow, standIns := [], harness := (true, "be7b114b92308d517cb47bba5e4f36e4b5b83473b1df23df048f570f1fe14625"), looks := true }, kinds := [], alts := [], laidByText := true, laidKinds := [.data, .data, .data], laidTests := true, laidLooks := .later }
def PlanNamesUptoCardSaid : Prop := Claim7.holds Tryz.pinned (.plain (OpenSpec.upto planNamesSpec)) planNamesUptoCard

/-- THE SECOND FORM's CARD OF 'auspicelaw08.PlanMakes'. -/
def planMakesUptoCard : Claim7 := { stood := { row := planMakesUptoRow, standIns := [], harness := (true, "be7b114b92308d517cb47bba5e4f36e4b5b83473b1df23df048f570f1fe14625"), looks := true }, kinds := [], alts := [], laidByText := true, laidKinds := [.data, .data, .data], laidTests := true, laidLooks := .later }
def PlanMakesUptoCardSaid : Prop := Claim7.holds Tryz.pinned (.plain (OpenSpec.upto planMakesSpec)) planMakesUptoCard

/-- THE SECOND FORM's CARD OF 'auspicelaw08.PlanTells'. -/
def planTellsUptoCard : Claim7 := { stood := { row := planTellsUptoRow, standIns := [], harness := (true, "be7b114b92308d517cb47bba5e4f36e4b5b83473b1df23df048f570f1fe14625"), looks := true }, kinds := [], alts := [], laidByText := true, laidKinds := [.data, .data, .data], laidTests := true, laidLooks := .later }
def PlanTellsUptoCardSaid : Prop := Claim7.holds Tryz.pinned (.plain (OpenSpec.upto planTellsSpec)) planTellsUptoCard
end Rows
end Go.Proofs.YtnnhdcidgfjfpaaGreatDoor
