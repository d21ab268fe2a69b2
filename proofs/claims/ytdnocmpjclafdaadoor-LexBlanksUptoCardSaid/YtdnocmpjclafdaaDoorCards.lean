/-
  DERIVED. GIVEN WITH THE SEED: THE CARDS: each row of YtdnocmpjclafdaaDoorRows.lean that lists a variable, with what it lists TIED to the program's text (the seventh form; the later family's looks); each row that meets fmt, with fmt's text TOLD by the authors' own Lean function (tested against real Go, not proved from fmt's source: count such statements apart). THE CARD IS WHAT COUNTS. Prove the row's statement (the work); the ties are given (YtdnocmpjclafdaaDoorTie.lean); close each card by the builder's one call (the guide's Derived/Test/ToyasCard.lean, 'card_holds'). Laid BY PROGRAM, IN A SANDBOX (cutbox-door.mjs). By AI agents, Wed Nov 11 2026. No macro, syntax, notation, axiom, sorry.
-/
import Derived.Test.YtdnocmpjclafdaaDoorRows
import GoSem.ClaimSeven
namespace Go.Proofs.YtdnocmpjclafdaaDoor
namespace Rows

/-- THE TIED CARD OF 'oriellaw04.LexPlaces'. -/
def lexPlacesCard : Claim7 := { stood := { row := lexPlacesRow, standIns := [], harness := (true, "f9bff9af9c2aea2d855b2d5fcfca9965bd3a97fd31bdd48f6635a01640537251"), looks := true }, kinds := [], alts := [], laidByText := true, laidKinds := [.data, .data, .data, .data, .sentinel, .sentinel, .pinned], laidTests := true, laidLooks := .later }
def LexPlacesCardSaid : Prop := Claim7.holds Tryd.pinned (.plain (OpenSpec.ofChange lexPlacesSpec)) lexPlacesCard

/-- THE TIED CARD OF 'oriellaw04.LexBlanks'. -/
def lexBlanksCard : Claim7 := { stood := { row := lexBlanksRow, standIns := [], harness := (true, "f9bff9af9c2aea2d855b2d5fcfca9965bd3a97fd31bdd48f6635a01640537251"), looks := true }, kinds := [], alts := [], laidByText := true, laidKinds := [.data, .data, .data, .data, .sentinel, .sentinel, .pinned], laidTests := true, laidLooks := .later }
def LexBlanksCardSaid : Prop := Claim7.holds Tryd.pinned (.plain (OpenSpec.ofChange lexBlanksSpec)) lexBlanksCard

/-- THE TIED CARD OF 'oriellaw04.LexAlone'. -/
def lexAloneCard : Claim7 := { stood := { row := lexAloneRow, standIns := [], harness := (true, "f9bff9af9c2aea2d855b2d5fcfca9965bd3a97fd31bdd48f6635a01640537251"), looks := true }, kinds := [], alts := [], laidByText := true, laidKinds := [.data, .data, .data, .data, .sentinel, .sentinel, .pinned], laidTests := true, laidLooks := .later }
def LexAloneCardSaid : Prop := Claim7.holds Tryd.pinned (.plain (OpenSpec.ofChange lexAloneSpec)) lexAloneCard

/-- THE TIED CARD OF 'oriellaw07.PrintOne'. -/
def printOneCard : Claim7 := { stood := { row := printOneRow, standIns := [], harness := (true, "f9bff9af9c2aea2d855b2d5fcfca9965bd3a97fd31bdd48f6635a01640537251"), looks := true }, kinds := [], alts := [], laidByText := true, laidKinds := [.data, .data, .data, .data, .pinned], laidTests := true, laidLooks := .later }
def PrintOneCardSaid : Prop := Claim7.holds Tryd.pinned (.plain (OpenSpec.ofChange printOneSpec)) printOneCard

/-- THE TIED CARD OF 'oriellaw07.PrintShort'. -/
def printShortCard : Claim7 := { stood := { row := printShortRow, standIns := [], harness := (true, "f9bff9af9c2aea2d855b2d5fcfca9965bd3a97fd31bdd48f6635a01640537251"), looks := true }, kinds := [], alts := [], laidByText := true, laidKinds := [.data, .data, .data, .data, .pinned], laidTests := true, laidLooks := .later }
def PrintShortCardSaid : Prop := Claim7.holds Tryd.pinned (.plain (OpenSpec.ofChange printShortSpec)) printShortCard

/-- THE TIED CARD OF 'oriellaw07.PrintKeeps'. -/
def printKeepsCard : Claim7 := { stood := { row := printKeepsRow, standIns := [], harness := (true, "f9bff9af9c2aea2d855b2d5fcfca9965bd3a97fd31bdd48f6635a01640537251"), looks := true }, kinds := [], alts := [], laidByText := true, laidKinds := [.data, .data, .data, .data, .pinned], laidTests := true, laidLooks := .later }
def PrintKeepsCardSaid : Prop := Claim7.holds Tryd.pinned (.plain (OpenSpec.ofChange printKeepsSpec)) printKeepsCard

/-- THE SECOND FORM's CARD OF 'oriellaw04.LexPlaces'. -/
def lexPlacesUptoCard : Claim7 := { stood := { row := lexPlacesUptoRow, standIns := [], harness := (true, "f9bff9af9c2aea2d855b2d5fcfca9965bd3a97fd31bdd48f6635a01640537251"), looks := true }, kinds := [], alts := [], laidByText := true, laidKinds := [.data, .data, .data, .data, .sentinel, .sentinel, .pinned], laidTests := true, laidLooks := .later }
def LexPlacesUptoCardSaid : Prop := Claim7.holds Tryd.pinned (.plain (OpenSpec.upto lexPlacesSpec)) lexPlacesUptoCard

/-- THE SECOND FORM's CARD OF 'oriellaw04.LexBlanks'. -/
def lexBlanksUptoCard : Claim7 := { stood := { row := lexBlanksUptoRow, standIns := [], harness := (true, "f9bff9af9c2aea2d855b2d5fcfca9965bd3a97fd31bdd48f6635a01640537251"), looks := true }, kinds := [], alts := [], laidByText := true, laidKinds := [.data, .data, .data, .data, .sentinel, .sentinel, .pinned], laidTests := true, laidLooks := .later }
def LexBlanksUptoCardSaid : Prop := Claim7.holds Tryd.pinned (.plain (OpenSpec.upto lexBlanksSpec)) lexBlanksUptoCard

/-- THE SECOND FORM's CARD OF 'oriellaw04.LexAlone'. -/
def lexAloneUptoCard : Claim7 := { stood := { row := lexAloneUptoRow, standIns := [], harness := (true, "f9bff9af9c2aea2d855b2d5fcfca9965bd3a97fd31bdd48f6635a01640537251"), looks := true }, kinds := [], alts := [], laidByText := true, laidKinds := [.data, .data, .data, .data, .sentinel, .sentinel, .pinned], laidTests := true, laidLooks := .later }
def LexAloneUptoCardSaid : Prop := Claim7.holds Tryd.pinned (.plain (OpenSpec.upto lexAloneSpec)) lexAloneUptoCard

/-- THE SECOND FORM's CARD OF 'oriellaw07.PrintOne'. -/
def printOneUptoCard : Claim7 := { stood := { row := printOneUptoRow, standIns := [], harness := (true, "f9bff9af9c2aea2d855b2d5fcfca9965bd3a97fd31bdd48f6635a01640537251"), looks := true }, kinds := [], alts := [], laidByText := true, laidKinds := [.data, .data, .data, .data, .pinned], laidTests := true, laidLooks := .later }
def PrintOneUptoCardSaid : Prop := Claim7.holds Tryd.pinned (.plain (OpenSpec.upto printOneSpec)) printOneUptoCard

/-- THE SECOND FORM's CARD OF 'oriellaw07.PrintShort'. -/
def printShortUptoCard : Claim7 := { stood := { row := printShortUptoRow, standIns := [], harness := (true, "f9bff9af9c2aea2d855b2d5fcfca9965bd3a97fd31bdd48f6635a01640537251"), looks := true }, kinds := [], alts := [], laidByText := true, laidKinds := [.data, .data, .data, .data, .pinned], laidTests := true, laidLooks := .later }
def PrintShortUptoCardSaid : Prop := Claim7.holds Tryd.pinned (.plain (OpenSpec.upto printShortSpec)) printShortUptoCard

/-- THE SECOND FORM's CARD OF 'oriellaw07.PrintKeeps'. -/
def printKeepsUptoCard : Claim7 := { stood := { row := printKeepsUptoRow, standIns := [], harness := (true, "f9bff9af9c2aea2d855b2d5fcfca9965bd3a97fd31bdd48f6635a01640537251"), looks := true }, kinds := [], alts := [], laidByText := true, laidKinds := [.data, .data, .data, .data, .pinned], laidTests := true, laidLooks := .later }
def PrintKeepsUptoCardSaid : Prop := Claim7.holds Tryd.pinned (.plain (OpenSpec.upto printKeepsSpec)) printKeepsUptoCard
end Rows
end Go.Proofs.YtdnocmpjclafdaaDoor
