/-
  DERIVED. GIVEN WITH THE SEED: THE CARDS: each row of YtfbkoieodflcpaaDoorRows.lean that lists a variable, with what it lists TIED to the program's text (the seventh form; the later family's looks); each row that meets fmt, with fmt's text TOLD by the authors' own Lean function (tested against real Go, not proved from fmt's source: count such statements apart). THE CARD IS WHAT COUNTS. Prove the row's statement (the work); the ties are given (YtfbkoieodflcpaaDoorTie.lean); close each card by the builder's one call (the guide's Derived/Test/ToyasCard.lean, 'card_holds'). Laid BY PROGRAM, IN A SANDBOX (cutbox-door.mjs). By AI agents, Wed Nov 11 2026. No macro, syntax, notation, axiom, sorry.
-/
import Derived.Test.YtfbkoieodflcpaaDoorRows
import GoSem.ClaimSeven
namespace Go.Proofs.YtfbkoieodflcpaaDoor
namespace Rows

/-- THE TIED CARD OF 'oriellaw07.PrintOne'. -/
def printOneCard : Claim7 := { stood := { row := printOneRow, standIns := [], harness := (true, "6df8c69d6184fa0663c953e1130d0342386325fa6a6fa81cc50540e8fe4eb717"), looks := false }, kinds := [], alts := [], laidByText := true, laidKinds := [.data, .data, .data, .data, .pinned], laidTests := true, laidLooks := .later }
def PrintOneCardSaid : Prop := Claim7.holds Tryd.pinned (.plain (OpenSpec.ofChange printOneSpec)) printOneCard

/-- THE TIED CARD OF 'oriellaw07.PrintShort'. -/
def printShortCard : Claim7 := { stood := { row := printShortRow, standIns := [], harness := (true, "6df8c69d6184fa0663c953e1130d0342386325fa6a6fa81cc50540e8fe4eb717"), looks := false }, kinds := [], alts := [], laidByText := true, laidKinds := [.data, .data, .data, .data, .pinned], laidTests := true, laidLooks := .later }
def PrintShortCardSaid : Prop := Claim7.holds Tryd.pinned (.plain (OpenSpec.ofChange printShortSpec)) printShortCard

/-- THE TIED CARD OF 'oriellaw07.PrintKeeps'. -/
def printKeepsCard : Claim7 := { stood := { row := printKeepsRow, standIns := [], harness := (true, "6df8c69d6184fa0663c953e1130d0342386325fa6a6fa81cc50540e8fe4eb717"), looks := false }, kinds := [], alts := [], laidByText := true, laidKinds := [.data, .data, .data, .data, .pinned], laidTests := true, laidLooks := .later }
def PrintKeepsCardSaid : Prop := Claim7.holds Tryd.pinned (.plain (OpenSpec.ofChange printKeepsSpec)) printKeepsCard

/-- THE SECOND FORM's CARD OF 'oriellaw07.PrintOne'. -/
def printOneUptoCard : Claim7 := { stood := { row := printOneUptoRow, standIns := [], harness := (true, "6df8c69d6184fa0663c953e1130d0342386325fa6a6fa81cc50540e8fe4eb717"), looks := false }, kinds := [], alts := [], laidByText := true, laidKinds := [.data, .data, .data, .data, .pinned], laidTests := true, laidLooks := .later }
def PrintOneUptoCardSaid : Prop := Claim7.holds Tryd.pinned (.plain (OpenSpec.upto printOneSpec)) printOneUptoCard

/-- THE SECOND FORM's CARD OF 'oriellaw07.PrintShort'. -/
def printShortUptoCard : Claim7 := { stood := { row := printShortUptoRow, standIns := [], harness := (true, "6df8c69d6184fa0663c953e1130d0342386325fa6a6fa81cc50540e8fe4eb717"), looks := false }, kinds := [], alts := [], laidByText := true, laidKinds := [.data, .data, .data, .data, .pinned], laidTests := true, laidLooks := .later }
def PrintShortUptoCardSaid : Prop := Claim7.holds Tryd.pinned (.plain (OpenSpec.upto printShortSpec)) printShortUptoCard

/-- THE SECOND FORM's CARD OF 'oriellaw07.PrintKeeps'. -/
def printKeepsUptoCard : Claim7 := { stood := { row := printKeepsUptoRow, standIns := [], harness := (true, "6df8c69d6184fa0663c953e1130d0342386325fa6a6fa81cc50540e8fe4eb717"), looks := false }, kinds := [], alts := [], laidByText := true, laidKinds := [.data, .data, .data, .data, .pinned], laidTests := true, laidLooks := .later }
def PrintKeepsUptoCardSaid : Prop := Claim7.holds Tryd.pinned (.plain (OpenSpec.upto printKeepsSpec)) printKeepsUptoCard
end Rows
end Go.Proofs.YtfbkoieodflcpaaDoor
