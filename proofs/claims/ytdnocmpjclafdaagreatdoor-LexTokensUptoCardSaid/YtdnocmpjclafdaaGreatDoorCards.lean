/-
  DERIVED. GIVEN WITH THE SEED: THE CARDS: each row of YtdnocmpjclafdaaGreatDoorRows.lean that lists a variable, with what it lists TIED to the program's text (the seventh form; the later family's looks); each row that meets fmt, with fmt's text TOLD by the authors' own Lean function (tested against real Go, not proved from fmt's source: count such statements apart). THE CARD IS WHAT COUNTS. Prove the row's statement (the work); the ties are given (YtdnocmpjclafdaaGreatDoorTie.lean); close each card by the builder's one call (the guide's Derived/Test/ToyasCard.lean, 'card_holds'). Laid BY PROGRAM, IN A SANDBOX (cutbox-door.mjs). By AI agents, Wed Nov 11 2026. No macro, syntax, notation, axiom, sorry.
-/
import Derived.Test.YtdnocmpjclafdaaGreatDoorRows
import GoSem.ClaimSeven
namespace Go.Proofs.YtdnocmpjclafdaaGreatDoor
namespace Rows

/-- THE TIED CARD OF 'oriellaw04.LexTokens'. -/
def lexTokensCard : Claim7 := { stood := { row := lexTokensRow, standIns := [], harness := (true, "067faf604eaee8e40717fda66c1463285b1ba329a248a9c12497b7fc231c0271"), looks := true }, kinds := [], alts := [], laidByText := true, laidKinds := [.data, .data, .data, .data, .sentinel, .sentinel, .pinned], laidTests := true, laidLooks := .later }
def LexTokensCardSaid : Prop := Claim7.holds Tryz.pinned (.plain (OpenSpec.ofChange lexTokensSpec)) lexTokensCard

/-- THE TIED CARD OF 'oriellaw04.LexLeaves'. -/
def lexLeavesCard : Claim7 := { stood := { row := lexLeavesRow, standIns := [], harness := (true, "067faf604eaee8e40717fda66c1463285b1ba329a248a9c12497b7fc231c0271"), looks := true }, kinds := [], alts := [], laidByText := true, laidKinds := [.data, .data, .data, .data, .sentinel, .sentinel, .pinned], laidTests := true, laidLooks := .later }
def LexLeavesCardSaid : Prop := Claim7.holds Tryz.pinned (.plain (OpenSpec.ofChange lexLeavesSpec)) lexLeavesCard

/-- THE TIED CARD OF 'oriellaw07.PrintTells'. -/
def printTellsCard : Claim7 := { stood := { row := printTellsRow, standIns := [], harness := (true, "067faf604eaee8e40717fda66c1463285b1ba329a248a9c12497b7fc231c0271"), looks := true }, kinds := [], alts := [], laidByText := true, laidKinds := [.data, .data, .data, .data, .pinned], laidTests := true, laidLooks := .later }
def PrintTellsCardSaid : Prop := Claim7.holds Tryz.pinned (.plain (OpenSpec.ofChange printTellsSpec)) printTellsCard

/-- THE TIED CARD OF 'oriellaw06.ParseReads'. -/
def parseReadsCard : Claim7 := { stood := { row := parseReadsRow, standIns := [], harness := (true, "067faf604eaee8e40717fda66c1463285b1ba329a248a9c12497b7fc231c0271"), looks := true }, kinds := [], alts := [], laidByText := true, laidKinds := [.data, .data, .data, .data, .sentinel, .sentinel, .pinned], laidTests := true, laidLooks := .later }
def ParseReadsCardSaid : Prop := Claim7.holds Tryz.pinned (.plain (OpenSpec.ofChange parseReadsSpec)) parseReadsCard

/-- THE TIED CARD OF 'oriellaw06.ParseBlanks'. -/
def parseBlanksCard : Claim7 := { stood := { row := parseBlanksRow, standIns := [], harness := (true, "067faf604eaee8e40717fda66c1463285b1ba329a248a9c12497b7fc231c0271"), looks := true }, kinds := [], alts := [], laidByText := true, laidKinds := [.data, .data, .data, .data, .sentinel, .sentinel, .pinned], laidTests := true, laidLooks := .later }
def ParseBlanksCardSaid : Prop := Claim7.holds Tryz.pinned (.plain (OpenSpec.ofChange parseBlanksSpec)) parseBlanksCard

/-- THE TIED CARD OF 'oriellaw06.ParseBrackets'. -/
def parseBracketsCard : Claim7 := { stood := { row := parseBracketsRow, standIns := [], harness := (true, "067faf604eaee8e40717fda66c1463285b1ba329a248a9c12497b7fc231c0271"), looks := true }, kinds := [], alts := [], laidByText := true, laidKinds := [.data, .data, .data, .data, .sentinel, .sentinel, .pinned], laidTests := true, laidLooks := .later }
def ParseBracketsCardSaid : Prop := Claim7.holds Tryz.pinned (.plain (OpenSpec.ofChange parseBracketsSpec)) parseBracketsCard

/-- THE TIED CARD OF 'oriellaw06.ParseOthers'. -/
def parseOthersCard : Claim7 := { stood := { row := parseOthersRow, standIns := [], harness := (true, "067faf604eaee8e40717fda66c1463285b1ba329a248a9c12497b7fc231c0271"), looks := true }, kinds := [], alts := [], laidByText := true, laidKinds := [.data, .data, .data, .data, .sentinel, .sentinel, .pinned], laidTests := true, laidLooks := .later }
def ParseOthersCardSaid : Prop := Claim7.holds Tryz.pinned (.plain (OpenSpec.ofChange parseOthersSpec)) parseOthersCard

/-- THE TIED CARD OF 'oriellaw06.ParseMay'. -/
def parseMayCard : Claim7 := { stood := { row := parseMayRow, standIns := [], harness := (true, "067faf604eaee8e40717fda66c1463285b1ba329a248a9c12497b7fc231c0271"), looks := true }, kinds := [], alts := [], laidByText := true, laidKinds := [.data, .data, .data, .data, .sentinel, .sentinel, .pinned], laidTests := true, laidLooks := .later }
def ParseMayCardSaid : Prop := Claim7.holds Tryz.pinned (.plain (OpenSpec.ofChange parseMaySpec)) parseMayCard

/-- THE TIED CARD OF 'oriellaw07.PrintBack'. -/
def printBackCard : Claim7 := { stood := { row := printBackRow, standIns := [], harness := (true, "067faf604eaee8e40717fda66c1463285b1ba329a248a9c12497b7fc231c0271"), looks := true }, kinds := [], alts := [], laidByText := true, laidKinds := [.data, .data, .data, .data, .sentinel, .sentinel, .pinned], laidTests := true, laidLooks := .later }
def PrintBackCardSaid : Prop := Claim7.holds Tryz.pinned (.plain (OpenSpec.ofChange printBackSpec)) printBackCard

/-- THE SECOND FORM's CARD OF 'oriellaw04.LexTokens'. -/
def lexTokensUptoCard : Claim7 := { stood := { row := lexTokensUptoRow, standIns := [], harness := (true, "067faf604eaee8e40717fda66c1463285b1ba329a248a9c12497b7fc231c0271"), looks := true }, kinds := [], alts := [], laidByText := true, laidKinds := [.data, .data, .data, .data, .sentinel, .sentinel, .pinned], laidTests := true, laidLooks := .later }
def LexTokensUptoCardSaid : Prop := Claim7.holds Tryz.pinned (.plain (OpenSpec.upto lexTokensSpec)) lexTokensUptoCard

/-- THE SECOND FORM's CARD OF 'oriellaw04.LexLeaves'. -/
def lexLeavesUptoCard : Claim7 := { stood := { row := lexLeavesUptoRow, standIns := [], harness := (true, "067faf604eaee8e40717fda66c1463285b1ba329a248a9c12497b7fc231c0271"), looks := true }, kinds := [], alts := [], laidByText := true, laidKinds := [.data, .data, .data, .data, .sentinel, .sentinel, .pinned], laidTests := true, laidLooks := .later }
def LexLeavesUptoCardSaid : Prop := Claim7.holds Tryz.pinned (.plain (OpenSpec.upto lexLeavesSpec)) lexLeavesUptoCard

/-- THE SECOND FORM's CARD OF 'oriellaw07.PrintTells'. -/
def printTellsUptoCard : Claim7 := { stood := { row := printTellsUptoRow, standIns := [], harness := (true, "067faf604eaee8e40717fda66c1463285b1ba329a248a9c12497b7fc231c0271"), looks := true }, kinds := [], alts := [], laidByText := true, laidKinds := [.data, .data, .data, .data, .pinned], laidTests := true, laidLooks := .later }
def PrintTellsUptoCardSaid : Prop := Claim7.holds Tryz.pinned (.plain (OpenSpec.upto printTellsSpec)) printTellsUptoCard

/-- THE SECOND FORM's CARD OF 'oriellaw06.ParseReads'. -/
def parseReadsUptoCard : Claim7 := { stood := { row := parseReadsUptoRow, standIns := [], harness := (true, "067faf604eaee8e40717fda66c1463285b1ba329a248a9c12497b7fc231c0271"), looks := true }, kinds := [], alts := [], laidByText := true, laidKinds := [.data, .data, .data, .data, .sentinel, .sentinel, .pinned], laidTests := true, laidLooks := .later }
def ParseReadsUptoCardSaid : Prop := Claim7.holds Tryz.pinned (.plain (OpenSpec.upto parseReadsSpec)) parseReadsUptoCard

/-- THE SECOND FORM's CARD OF 'oriellaw06.ParseBlanks'. -/
def parseBlanksUptoCard : Claim7 := { stood := { row := parseBlanksUptoRow, standIns := [], harness := (true, "067faf604eaee8e40717fda66c1463285b1ba329a248a9c12497b7fc231c0271"), looks := true }, kinds := [], alts := [], laidByText := true, laidKinds := [.data, .data, .data, .data, .sentinel, .sentinel, .pinned], laidTests := true, laidLooks := .later }
def ParseBlanksUptoCardSaid : Prop := Claim7.holds Tryz.pinned (.plain (OpenSpec.upto parseBlanksSpec)) parseBlanksUptoCard

/-- THE SECOND FORM's CARD OF 'oriellaw06.ParseBrackets'. -/
def parseBracketsUptoCard : Claim7 := { stood := { row := parseBracketsUptoRow, standIns := [], harness := (true, "067faf604eaee8e40717fda66c1463285b1ba329a248a9c12497b7fc231c0271"), looks := true }, kinds := [], alts := [], laidByText := true, laidKinds := [.data, .data, .data, .data, .sentinel, .sentinel, .pinned], laidTests := true, laidLooks := .later }
def ParseBracketsUptoCardSaid : Prop := Claim7.holds Tryz.pinned (.plain (OpenSpec.upto parseBracketsSpec)) parseBracketsUptoCard

/-- THE SECOND FORM's CARD OF 'oriellaw06.ParseOthers'. -/
def parseOthersUptoCard : Claim7 := { stood := { row := parseOthersUptoRow, standIns := [], harness := (true, "067faf604eaee8e40717fda66c1463285b1ba329a248a9c12497b7fc231c0271"), looks := true }, kinds := [], alts := [], laidByText := true, laidKinds := [.data, .data, .data, .data, .sentinel, .sentinel, .pinned], laidTests := true, laidLooks := .later }
def ParseOthersUptoCardSaid : Prop := Claim7.holds Tryz.pinned (.plain (OpenSpec.upto parseOthersSpec)) parseOthersUptoCard

/-- THE SECOND FORM's CARD OF 'oriellaw06.ParseMay'. -/
def parseMayUptoCard : Claim7 := { stood := { row := parseMayUptoRow, standIns := [], harness := (true, "067faf604eaee8e40717fda66c1463285b1ba329a248a9c12497b7fc231c0271"), looks := true }, kinds := [], alts := [], laidByText := true, laidKinds := [.data, .data, .data, .data, .sentinel, .sentinel, .pinned], laidTests := true, laidLooks := .later }
def ParseMayUptoCardSaid : Prop := Claim7.holds Tryz.pinned (.plain (OpenSpec.upto parseMaySpec)) parseMayUptoCard

/-- THE SECOND FORM's CARD OF 'oriellaw07.PrintBack'. -/
def printBackUptoCard : Claim7 := { stood := { row := printBackUptoRow, standIns := [], harness := (true, "067faf604eaee8e40717fda66c1463285b1ba329a248a9c12497b7fc231c0271"), looks := true }, kinds := [], alts := [], laidByText := true, laidKinds := [.data, .data, .data, .data, .sentinel, .sentinel, .pinned], laidTests := true, laidLooks := .later }
def PrintBackUptoCardSaid : Prop := Claim7.holds Tryz.pinned (.plain (OpenSpec.upto printBackSpec)) printBackUptoCard
end Rows
end Go.Proofs.YtdnocmpjclafdaaGreatDoor
