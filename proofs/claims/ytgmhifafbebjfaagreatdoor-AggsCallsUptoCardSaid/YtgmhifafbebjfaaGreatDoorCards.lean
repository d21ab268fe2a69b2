/-
  DERIVED. GIVEN WITH THE SEED: THE CARDS: each row of YtgmhifafbebjfaaGreatDoorRows.lean that lists a variable, with what it lists TIED to the program's text (the seventh form; the later family's looks); each row that meets fmt, with fmt's text TOLD by the authors' own Lean function (tested against real Go, not proved from fmt's source: count such statements apart). THE CARD IS WHAT COUNTS. Prove the row's statement (the work); the ties are given (YtgmhifafbebjfaaGreatDoorTie.lean); close each card by the builder's one call (the guide's Derived/Test/ToyasCard.lean, 'card_holds'). Laid BY PROGRAM, IN A SANDBOX (cutbox-door.mjs). By AI agents, Wed Nov 11 2026. No macro, syntax, notation, axiom, sorry.
-/
import Derived.Test.YtgmhifafbebjfaaGreatDoorRows
import GoSem.ClaimSeven
namespace Go.Proofs.YtgmhifafbebjfaaGreatDoor
namespace Rows

/-- THE TIED CARD OF 'oriellaw09.TextsCalls'. -/
def textsCallsCard : Claim7 := { stood := { row := textsCallsRow, standIns := [], harness := (true, "632a8b0d88ef448442372691d3b29587de51a577969f3a4bc6177462e86ef20b"), looks := true }, kinds := [], alts := [], laidByText := true, laidKinds := [.data, .data, .data, .data, .sentinel, .sentinel, .pinned], laidTests := true, laidLooks := .later }
def TextsCallsCardSaid : Prop := Claim7.holds Tryz.pinned (.plain (OpenSpec.ofChange textsCallsSpec)) textsCallsCard

/-- THE TIED CARD OF 'oriellaw10.AggsCalls'. -/
def aggsCallsCard : Claim7 := { stood := { row := aggsCallsRow, standIns := [], harness := (true, "632a8b0d88ef448442372691d3b29587de51a577969f3a4bc6177462e86ef20b"), looks := true }, kinds := [], alts := [], laidByText := true, laidKinds := [.data, .data, .data, .data, .pinned], laidTests := true, laidLooks := .later }
def AggsCallsCardSaid : Prop := Claim7.holds Tryz.pinned (.plain (OpenSpec.ofChange aggsCallsSpec)) aggsCallsCard

/-- THE SECOND FORM's CARD OF 'oriellaw09.TextsCalls'. -/
def textsCallsUptoCard : Claim7 := { stood := { row := textsCallsUptoRow, standIns := [], harness := (true, "632a8b0d88ef448442372691d3b29587de51a577969f3a4bc6177462e86ef20b"), looks := true }, kinds := [], alts := [], laidByText := true, laidKinds := [.data, .data, .data, .data, .sentinel, .sentinel, .pinned], laidTests := true, laidLooks := .later }
def TextsCallsUptoCardSaid : Prop := Claim7.holds Tryz.pinned (.plain (OpenSpec.upto textsCallsSpec)) textsCallsUptoCard

/-- THE SECOND FORM's CARD OF 'oriellaw10.AggsCalls'. -/
def aggsCallsUptoCard : Claim7 := { stood := { row := aggsCallsUptoRow, standIns := [], harness := (true, "632a8b0d88ef448442372691d3b29587de51a577969f3a4bc6177462e86ef20b"), looks := true }, kinds := [], alts := [], laidByText := true, laidKinds := [.data, .data, .data, .data, .pinned], laidTests := true, laidLooks := .later }
def AggsCallsUptoCardSaid : Prop := Claim7.holds Tryz.pinned (.plain (OpenSpec.upto aggsCallsSpec)) aggsCallsUptoCard
end Rows
end Go.Proofs.YtgmhifafbebjfaaGreatDoor
