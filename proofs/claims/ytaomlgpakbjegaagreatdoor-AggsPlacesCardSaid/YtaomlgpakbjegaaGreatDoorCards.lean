/-
  DERIVED. GIVEN WITH THE SEED: THE CARDS: each row of YtaomlgpakbjegaaGreatDoorRows.lean that lists a variable, with what it lists TIED to the program's text (the seventh form; the later family's looks); each row that meets fmt, with fmt's text TOLD by the authors' own Lean function (tested against real Go, not proved from fmt's source: count such statements apart). THE CARD IS WHAT COUNTS. Prove the row's statement (the work); the ties are given (YtaomlgpakbjegaaGreatDoorTie.lean); close each card by the builder's one call (the guide's Derived/Test/ToyasCard.lean, 'card_holds'). Laid BY PROGRAM, IN A SANDBOX (cutbox-door.mjs). By AI agents, Wed Nov 11 2026. No macro, syntax, notation, axiom, sorry.
-/
import Derived.Test.YtaomlgpakbjegaaGreatDoorRows
import GoSem.ClaimSeven
namespace Go.Proofs.YtaomlgpakbjegaaGreatDoor
namespace Rows

/-- THE TIED CARD OF 'oriellaw09.TextsCalls'. -/
def textsCallsCard : Claim7 := { stood := { row := textsCallsRow, standIns := [], harness := (true, "d3aab6f519d2cf29ee412f38fbe6de08720921611d4f426dd328bd48125e0875"), looks := true }, kinds := [], alts := [], laidByText := true, laidKinds := [.data, .data, .data, .data, .sentinel, .sentinel, .pinned], laidTests := true, laidLooks := .later }
def TextsCallsCardSaid : Prop := Claim7.holds Tryz.pinned (.plain (OpenSpec.ofChange textsCallsSpec)) textsCallsCard

/-- THE TIED CARD OF 'oriellaw09.TextsTakes'. -/
def textsTakesCard : Claim7 := { stood := { row := textsTakesRow, standIns := [], harness := (true, "d3aab6f519d2cf29ee412f38fbe6de08720921611d4f426dd328bd48125e0875"), looks := true }, kinds := [], alts := [], laidByText := true, laidKinds := [.data, .data, .data, .data, .sentinel, .sentinel, .pinned], laidTests := true, laidLooks := .later }
def TextsTakesCardSaid : Prop := Claim7.holds Tryz.pinned (.plain (OpenSpec.ofChange textsTakesSpec)) textsTakesCard

/-- THE TIED CARD OF 'oriellaw09.TextsParts'. -/
def textsPartsCard : Claim7 := { stood := { row := textsPartsRow, standIns := [], harness := (true, "d3aab6f519d2cf29ee412f38fbe6de08720921611d4f426dd328bd48125e0875"), looks := true }, kinds := [], alts := [], laidByText := true, laidKinds := [.data, .data, .data, .data, .sentinel, .sentinel, .pinned], laidTests := true, laidLooks := .later }
def TextsPartsCardSaid : Prop := Claim7.holds Tryz.pinned (.plain (OpenSpec.ofChange textsPartsSpec)) textsPartsCard

/-- THE TIED CARD OF 'oriellaw09.TextsFinds'. -/
def textsFindsCard : Claim7 := { stood := { row := textsFindsRow, standIns := [], harness := (true, "d3aab6f519d2cf29ee412f38fbe6de08720921611d4f426dd328bd48125e0875"), looks := true }, kinds := [], alts := [], laidByText := true, laidKinds := [.data, .data, .data, .data, .sentinel, .sentinel, .pinned], laidTests := true, laidLooks := .later }
def TextsFindsCardSaid : Prop := Claim7.holds Tryz.pinned (.plain (OpenSpec.ofChange textsFindsSpec)) textsFindsCard

/-- THE TIED CARD OF 'oriellaw09.TextsJoins'. -/
def textsJoinsCard : Claim7 := { stood := { row := textsJoinsRow, standIns := [], harness := (true, "d3aab6f519d2cf29ee412f38fbe6de08720921611d4f426dd328bd48125e0875"), looks := true }, kinds := [], alts := [], laidByText := true, laidKinds := [.data, .data, .data, .data, .sentinel, .sentinel, .pinned], laidTests := true, laidLooks := .later }
def TextsJoinsCardSaid : Prop := Claim7.holds Tryz.pinned (.plain (OpenSpec.ofChange textsJoinsSpec)) textsJoinsCard

/-- THE TIED CARD OF 'oriellaw09.TextsSwaps'. -/
def textsSwapsCard : Claim7 := { stood := { row := textsSwapsRow, standIns := [], harness := (true, "d3aab6f519d2cf29ee412f38fbe6de08720921611d4f426dd328bd48125e0875"), looks := true }, kinds := [], alts := [], laidByText := true, laidKinds := [.data, .data, .data, .data, .sentinel, .sentinel, .pinned], laidTests := true, laidLooks := .later }
def TextsSwapsCardSaid : Prop := Claim7.holds Tryz.pinned (.plain (OpenSpec.ofChange textsSwapsSpec)) textsSwapsCard

/-- THE TIED CARD OF 'oriellaw10.AggsCalls'. -/
def aggsCallsCard : Claim7 := { stood := { row := aggsCallsRow, standIns := [], harness := (true, "d3aab6f519d2cf29ee412f38fbe6de08720921611d4f426dd328bd48125e0875"), looks := true }, kinds := [], alts := [], laidByText := true, laidKinds := [.data, .data, .data, .data, .pinned], laidTests := true, laidLooks := .later }
def AggsCallsCardSaid : Prop := Claim7.holds Tryz.pinned (.plain (OpenSpec.ofChange aggsCallsSpec)) aggsCallsCard

/-- THE TIED CARD OF 'oriellaw10.AggsTakes'. -/
def aggsTakesCard : Claim7 := { stood := { row := aggsTakesRow, standIns := [], harness := (true, "d3aab6f519d2cf29ee412f38fbe6de08720921611d4f426dd328bd48125e0875"), looks := true }, kinds := [], alts := [], laidByText := true, laidKinds := [.data, .data, .data, .data, .pinned], laidTests := true, laidLooks := .later }
def AggsTakesCardSaid : Prop := Claim7.holds Tryz.pinned (.plain (OpenSpec.ofChange aggsTakesSpec)) aggsTakesCard

/-- THE TIED CARD OF 'oriellaw10.AggsOrder'. -/
def aggsOrderCard : Claim7 := { stood := { row := aggsOrderRow, standIns := [], harness := (true, "d3aab6f519d2cf29ee412f38fbe6de08720921611d4f426dd328bd48125e0875"), looks := true }, kinds := [], alts := [], laidByText := true, laidKinds := [.data, .data, .data, .data, .pinned], laidTests := true, laidLooks := .later }
def AggsOrderCardSaid : Prop := Claim7.holds Tryz.pinned (.plain (OpenSpec.ofChange aggsOrderSpec)) aggsOrderCard

/-- THE TIED CARD OF 'oriellaw10.AggsBetween'. -/
def aggsBetweenCard : Claim7 := { stood := { row := aggsBetweenRow, standIns := [], harness := (true, "d3aab6f519d2cf29ee412f38fbe6de08720921611d4f426dd328bd48125e0875"), looks := true }, kinds := [], alts := [], laidByText := true, laidKinds := [.data, .data, .data, .data, .pinned], laidTests := true, laidLooks := .later }
def AggsBetweenCardSaid : Prop := Claim7.holds Tryz.pinned (.plain (OpenSpec.ofChange aggsBetweenSpec)) aggsBetweenCard

/-- THE TIED CARD OF 'oriellaw10.AggsCounts'. -/
def aggsCountsCard : Claim7 := { stood := { row := aggsCountsRow, standIns := [], harness := (true, "d3aab6f519d2cf29ee412f38fbe6de08720921611d4f426dd328bd48125e0875"), looks := true }, kinds := [], alts := [], laidByText := true, laidKinds := [.data, .data, .data, .data, .pinned], laidTests := true, laidLooks := .later }
def AggsCountsCardSaid : Prop := Claim7.holds Tryz.pinned (.plain (OpenSpec.ofChange aggsCountsSpec)) aggsCountsCard

/-- THE TIED CARD OF 'oriellaw10.AggsPlaces'. -/
def aggsPlacesCard : Claim7 := { stood := { row := aggsPlacesRow, standIns := [], harness := (true, "d3aab6f519d2cf29ee412f38fbe6de08720921611d4f426dd328bd48125e0875"), looks := true }, kinds := [], alts := [], laidByText := true, laidKinds := [.data, .data, .data, .data, .pinned], laidTests := true, laidLooks := .later }
def AggsPlacesCardSaid : Prop := Claim7.holds Tryz.pinned (.plain (OpenSpec.ofChange aggsPlacesSpec)) aggsPlacesCard

/-- THE SECOND FORM's CARD OF 'oriellaw09.TextsCalls'. -/
def textsCallsUptoCard : Claim7 := { stood := { row := textsCallsUptoRow, standIns := [], harness := (true, "d3aab6f519d2cf29ee412f38fbe6de08720921611d4f426dd328bd48125e0875"), looks := true }, kinds := [], alts := [], laidByText := true, laidKinds := [.data, .data, .data, .data, .sentinel, .sentinel, .pinned], laidTests := true, laidLooks := .later }
def TextsCallsUptoCardSaid : Prop := Claim7.holds Tryz.pinned (.plain (OpenSpec.upto textsCallsSpec)) textsCallsUptoCard

/-- THE SECOND FORM's CARD OF 'oriellaw09.TextsTakes'. -/
def textsTakesUptoCard : Claim7 := { stood := { row := textsTakesUptoRow, standIns := [], harness := (true, "d3aab6f519d2cf29ee412f38fbe6de08720921611d4f426dd328bd48125e0875"), looks := true }, kinds := [], alts := [], laidByText := true, laidKinds := [.data, .data, .data, .data, .sentinel, .sentinel, .pinned], laidTests := true, laidLooks := .later }
def TextsTakesUptoCardSaid : Prop := Claim7.holds Tryz.pinned (.plain (OpenSpec.upto textsTakesSpec)) textsTakesUptoCard

/-- THE SECOND FORM's CARD OF 'oriellaw09.TextsParts'. -/
def textsPartsUptoCard : Claim7 := { stood := { row := textsPartsUptoRow, standIns := [], harness := (true, "d3aab6f519d2cf29ee412f38fbe6de08720921611d4f426dd328bd48125e0875"), looks := true }, kinds := [], alts := [], laidByText := true, laidKinds := [.data, .data, .data, .data, .sentinel, .sentinel, .pinned], laidTests := true, laidLooks := .later }
def TextsPartsUptoCardSaid : Prop := Claim7.holds Tryz.pinned (.plain (OpenSpec.upto textsPartsSpec)) textsPartsUptoCard

/-- THE SECOND FORM's CARD OF 'oriellaw09.TextsFinds'. -/
def textsFindsUptoCard : Claim7 := { stood := { row := textsFindsUptoRow, standIns := [], harness := (true, "d3aab6f519d2cf29ee412f38fbe6de08720921611d4f426dd328bd48125e0875"), looks := true }, kinds := [], alts := [], laidByText := true, laidKinds := [.data, .data, .data, .data, .sentinel, .sentinel, .pinned], laidTests := true, laidLooks := .later }
def TextsFindsUptoCardSaid : Prop := Claim7.holds Tryz.pinned (.plain (OpenSpec.upto textsFindsSpec)) textsFindsUptoCard

/-- THE SECOND FORM's CARD OF 'oriellaw09.TextsJoins'. -/
def textsJoinsUptoCard : Claim7 := { stood := { row := textsJoinsUptoRow, standIns := [], harness := (true, "d3aab6f519d2cf29ee412f38fbe6de08720921611d4f426dd328bd48125e0875"), looks := true }, kinds := [], alts := [], laidByText := true, laidKinds := [.data, .data, .data, .data, .sentinel, .sentinel, .pinned], laidTests := true, laidLooks := .later }
def TextsJoinsUptoCardSaid : Prop := Claim7.holds Tryz.pinned (.plain (OpenSpec.upto textsJoinsSpec)) textsJoinsUptoCard

/-- THE SECOND FORM's CARD OF 'oriellaw09.TextsSwaps'. -/
def textsSwapsUptoCard : Claim7 := { stood := { row := textsSwapsUptoRow, standIns := [], harness := (true, "d3aab6f519d2cf29ee412f38fbe6de08720921611d4f426dd328bd48125e0875"), looks := true }, kinds := [], alts := [], laidByText := true, laidKinds := [.data, .data, .data, .data, .sentinel, .sentinel, .pinned], laidTests := true, laidLooks := .later }
def TextsSwapsUptoCardSaid : Prop := Claim7.holds Tryz.pinned (.plain (OpenSpec.upto textsSwapsSpec)) textsSwapsUptoCard

/-- THE SECOND FORM's CARD OF 'oriellaw10.AggsCalls'. -/
def aggsCallsUptoCard : Claim7 := { stood := { row := aggsCallsUptoRow, standIns := [], harness := (true, "d3aab6f519d2cf29ee412f38fbe6de08720921611d4f426dd328bd48125e0875"), looks := true }, kinds := [], alts := [], laidByText := true, laidKinds := [.data, .data, .data, .data, .pinned], laidTests := true, laidLooks := .later }
def AggsCallsUptoCardSaid : Prop := Claim7.holds Tryz.pinned (.plain (OpenSpec.upto aggsCallsSpec)) aggsCallsUptoCard

/-- THE SECOND FORM's CARD OF 'oriellaw10.AggsTakes'. -/
def aggsTakesUptoCard : Claim7 := { stood := { row := aggsTakesUptoRow, standIns := [], harness := (true, "d3aab6f519d2cf29ee412f38fbe6de08720921611d4f426dd328bd48125e0875"), looks := true }, kinds := [], alts := [], laidByText := true, laidKinds := [.data, .data, .data, .data, .pinned], laidTests := true, laidLooks := .later }
def AggsTakesUptoCardSaid : Prop := Claim7.holds Tryz.pinned (.plain (OpenSpec.upto aggsTakesSpec)) aggsTakesUptoCard

/-- THE SECOND FORM's CARD OF 'oriellaw10.AggsOrder'. -/
def aggsOrderUptoCard : Claim7 := { stood := { row := aggsOrderUptoRow, standIns := [], harness := (true, "d3aab6f519d2cf29ee412f38fbe6de08720921611d4f426dd328bd48125e0875"), looks := true }, kinds := [], alts := [], laidByText := true, laidKinds := [.data, .data, .data, .data, .pinned], laidTests := true, laidLooks := .later }
def AggsOrderUptoCardSaid : Prop := Claim7.holds Tryz.pinned (.plain (OpenSpec.upto aggsOrderSpec)) aggsOrderUptoCard

/-- THE SECOND FORM's CARD OF 'oriellaw10.AggsBetween'. -/
def aggsBetweenUptoCard : Claim7 := { stood := { row := aggsBetweenUptoRow, standIns := [], harness := (true, "d3aab6f519d2cf29ee412f38fbe6de08720921611d4f426dd328bd48125e0875"), looks := true }, kinds := [], alts := [], laidByText := true, laidKinds := [.data, .data, .data, .data, .pinned], laidTests := true, laidLooks := .later }
def AggsBetweenUptoCardSaid : Prop := Claim7.holds Tryz.pinned (.plain (OpenSpec.upto aggsBetweenSpec)) aggsBetweenUptoCard

/-- THE SECOND FORM's CARD OF 'oriellaw10.AggsCounts'. -/
def aggsCountsUptoCard : Claim7 := { stood := { row := aggsCountsUptoRow, standIns := [], harness := (true, "d3aab6f519d2cf29ee412f38fbe6de08720921611d4f426dd328bd48125e0875"), looks := true }, kinds := [], alts := [], laidByText := true, laidKinds := [.data, .data, .data, .data, .pinned], laidTests := true, laidLooks := .later }
def AggsCountsUptoCardSaid : Prop := Claim7.holds Tryz.pinned (.plain (OpenSpec.upto aggsCountsSpec)) aggsCountsUptoCard

/-- THE SECOND FORM's CARD OF 'oriellaw10.AggsPlaces'. -/
def aggsPlacesUptoCard : Claim7 := { stood := { row := aggsPlacesUptoRow, standIns := [], harness := (true, "d3aab6f519d2cf29ee412f38fbe6de08720921611d4f426dd328bd48125e0875"), looks := true }, kinds := [], alts := [], laidByText := true, laidKinds := [.data, .data, .data, .data, .pinned], laidTests := true, laidLooks := .later }
def AggsPlacesUptoCardSaid : Prop := Claim7.holds Tryz.pinned (.plain (OpenSpec.upto aggsPlacesSpec)) aggsPlacesUptoCard
end Rows
end Go.Proofs.YtaomlgpakbjegaaGreatDoor
