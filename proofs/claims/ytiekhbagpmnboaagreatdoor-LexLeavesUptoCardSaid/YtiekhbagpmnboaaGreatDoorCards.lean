/-
  DERIVED. GIVEN WITH THE SEED: THE CARDS: each row of YtiekhbagpmnboaaGreatDoorRows.lean that lists a variable, with what it lists TIED to the program's text (the seventh form; the later family's looks); each row that meets fmt, with fmt's text TOLD by the authors' own Lean function (tested against real Go, not proved from fmt's source: count such statements apart). THE CARD IS WHAT COUNTS. Prove the row's statement (the work); the ties are given (YtiekhbagpmnboaaGreatDoorTie.lean); close each card by the builder's one call (the guide's Derived/Test/ToyasCard.lean, 'card_holds'). Laid BY PROGRAM, IN A SANDBOX (cutbox-door.mjs). By AI agents, Wed Nov 11 2026. No macro, syntax, notation, axiom, sorry.
-/
import Derived.Test.YtiekhbagpmnboaaGreatDoorRows
import GoSem.ClaimSeven
namespace Go.Proofs.YtiekhbagpmnboaaGreatDoor
namespace Rows

/-- THE TIED CARD OF 'oriellaw04.LexLeaves'. -/
def lexLeavesCard : Claim7 := { stood := { row := lexLeavesRow, standIns := [], harness := (true, "7d813178795876d1fbd1005bed3749aa8972363db3d5b5d84430814b1cdfc4b6"), looks := true }, kinds := [], alts := [], laidByText := true, laidKinds := [.data, .data, .data, .data, .sentinel, .sentinel, .pinned], laidTests := true, laidLooks := .later }
def LexLeavesCardSaid : Prop := Claim7.holds Tryz.pinned (.plain (OpenSpec.ofChange lexLeavesSpec)) lexLeavesCard

/-- THE TIED CARD OF 'oriellaw06.ParseReads'. -/
def parseReadsCard : Claim7 := { stood := { row := parseReadsRow, standIns := [], harness := (true, "7d813178795876d1fbd1005bed3749aa8972363db3d5b5d84430814b1cdfc4b6"), looks := true }, kinds := [], alts := [], laidByText := true, laidKinds := [.data, .data, .data, .data, .sentinel, .sentinel, .pinned], laidTests := true, laidLooks := .later }
def ParseReadsCardSaid : Prop := Claim7.holds Tryz.pinned (.plain (OpenSpec.ofChange parseReadsSpec)) parseReadsCard

/-- THE TIED CARD OF 'oriellaw06.ParseBlanks'. -/
def parseBlanksCard : Claim7 := { stood := { row := parseBlanksRow, standIns := [], harness := (true, "7d813178795876d1fbd1005bed3749aa8972363db3d5b5d84430814b1cdfc4b6"), looks := true }, kinds := [], alts := [], laidByText := true, laidKinds := [.data, .data, .data, .data, .sentinel, .sentinel, .pinned], laidTests := true, laidLooks := .later }
def ParseBlanksCardSaid : Prop := Claim7.holds Tryz.pinned (.plain (OpenSpec.ofChange parseBlanksSpec)) parseBlanksCard

/-- THE TIED CARD OF 'oriellaw06.ParseBrackets'. -/
def parseBracketsCard : Claim7 := { stood := { row := parseBracketsRow, standIns := [], harness := (true, "7d813178795876d1fbd1005bed3749aa8972363db3d5b5d84430814b1cdfc4b6"), looks := true }, kinds := [], alts := [], laidByText := true, laidKinds := [.data, .data, .data, .data, .sentinel, .sentinel, .pinned], laidTests := true, laidLooks := .later }
def ParseBracketsCardSaid : Prop := Claim7.holds Tryz.pinned (.plain (OpenSpec.ofChange parseBracketsSpec)) parseBracketsCard

/-- THE TIED CARD OF 'oriellaw06.ParseOthers'. -/
def parseOthersCard : Claim7 := { stood := { row := parseOthersRow, standIns := [], harness := (true, "7d813178795876d1fbd1005bed3749aa8972363db3d5b5d84430814b1cdfc4b6"), looks := true }, kinds := [], alts := [], laidByText := true, laidKinds := [.data, .data, .data, .data, .sentinel, .sentinel, .pinned], laidTests := true, laidLooks := .later }
def ParseOthersCardSaid : Prop := Claim7.holds Tryz.pinned (.plain (OpenSpec.ofChange parseOthersSpec)) parseOthersCard

/-- THE TIED CARD OF 'oriellaw06.ParseMay'. -/
def parseMayCard : Claim7 := { stood := { row := parseMayRow, standIns := [], harness := (true, "7d813178795876d1fbd1005bed3749aa8972363db3d5b5d84430814b1cdfc4b6"), looks := true }, kinds := [], alts := [], laidByText := true, laidKinds := [.data, .data, .data, .data, .sentinel, .sentinel, .pinned], laidTests := true, laidLooks := .later }
def ParseMayCardSaid : Prop := Claim7.holds Tryz.pinned (.plain (OpenSpec.ofChange parseMaySpec)) parseMayCard

/-- THE SECOND FORM's CARD OF 'oriellaw04.LexLeaves'. -/
def lexLeavesUptoCard : Claim7 := { stood := { row := lexLeavesUptoRow, standIns := [], harness := (true, "7d813178795876d1fbd1005bed3749aa8972363db3d5b5d84430814b1cdfc4b6"), looks := true }, kinds := [], alts := [], laidByText := true, laidKinds := [.data, .data, .data, .data, .sentinel, .sentinel, .pinned], laidTests := true, laidLooks := .later }
def LexLeavesUptoCardSaid : Prop := Claim7.holds Tryz.pinned (.plain (OpenSpec.upto lexLeavesSpec)) lexLeavesUptoCard

/-- THE SECOND FORM's CARD OF 'oriellaw06.ParseReads'. -/
def parseReadsUptoCard : Claim7 := { stood := { row := parseReadsUptoRow, standIns := [], harness := (true, "7d813178795876d1fbd1005bed3749aa8972363db3d5b5d84430814b1cdfc4b6"), looks := true }, kinds := [], alts := [], laidByText := true, laidKinds := [.data, .data, .data, .data, .sentinel, .sentinel, .pinned], laidTests := true, laidLooks := .later }
def ParseReadsUptoCardSaid : Prop := Claim7.holds Tryz.pinned (.plain (OpenSpec.upto parseReadsSpec)) parseReadsUptoCard

/-- THE SECOND FORM's CARD OF 'oriellaw06.ParseBlanks'. -/
def parseBlanksUptoCard : Claim7 := { stood := { row := parseBlanksUptoRow, standIns := [], harness := (true, "7d813178795876d1fbd1005bed3749aa8972363db3d5b5d84430814b1cdfc4b6"), looks := true }, kinds := [], alts := [], laidByText := true, laidKinds := [.data, .data, .data, .data, .sentinel, .sentinel, .pinned], laidTests := true, laidLooks := .later }
def ParseBlanksUptoCardSaid : Prop := Claim7.holds Tryz.pinned (.plain (OpenSpec.upto parseBlanksSpec)) parseBlanksUptoCard

/-- THE SECOND FORM's CARD OF 'oriellaw06.ParseBrackets'. -/
def parseBracketsUptoCard : Claim7 := { stood := { row := parseBracketsUptoRow, standIns := [], harness := (true, "7d813178795876d1fbd1005bed3749aa8972363db3d5b5d84430814b1cdfc4b6"), looks := true }, kinds := [], alts := [], laidByText := true, laidKinds := [.data, .data, .data, .data, .sentinel, .sentinel, .pinned], laidTests := true, laidLooks := .later }
def ParseBracketsUptoCardSaid : Prop := Claim7.holds Tryz.pinned (.plain (OpenSpec.upto parseBracketsSpec)) parseBracketsUptoCard

/-- THE SECOND FORM's CARD OF 'oriellaw06.ParseOthers'. -/
def parseOthersUptoCard : Claim7 := { stood := { row := parseOthersUptoRow, standIns := [], harness := (true, "7d813178795876d1fbd1005bed3749aa8972363db3d5b5d84430814b1cdfc4b6"), looks := true }, kinds := [], alts := [], laidByText := true, laidKinds := [.data, .data, .data, .data, .sentinel, .sentinel, .pinned], laidTests := true, laidLooks := .later }
def ParseOthersUptoCardSaid : Prop := Claim7.holds Tryz.pinned (.plain (OpenSpec.upto parseOthersSpec)) parseOthersUptoCard

/-- THE SECOND FORM's CARD OF 'oriellaw06.ParseMay'. -/
def parseMayUptoCard : Claim7 := { stood := { row := parseMayUptoRow, standIns := [], harness := (true, "7d813178795876d1fbd1005bed3749aa8972363db3d5b5d84430814b1cdfc4b6"), looks := true }, kinds := [], alts := [], laidByText := true, laidKinds := [.data, .data, .data, .data, .sentinel, .sentinel, .pinned], laidTests := true, laidLooks := .later }
def ParseMayUptoCardSaid : Prop := Claim7.holds Tryz.pinned (.plain (OpenSpec.upto parseMaySpec)) parseMayUptoCard
end Rows
end Go.Proofs.YtiekhbagpmnboaaGreatDoor
