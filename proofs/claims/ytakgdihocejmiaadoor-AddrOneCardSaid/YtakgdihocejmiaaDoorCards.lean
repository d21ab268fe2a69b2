/-
  DERIVED. GIVEN WITH THE SEED: THE CARDS: each row of YtakgdihocejmiaaDoorRows.lean that lists a variable, with what it lists TIED to the program's text (the seventh form; the later family's looks); each row that meets fmt, with fmt's text TOLD by the authors' own Lean function (tested against real Go, not proved from fmt's source: count such statements apart). THE CARD IS WHAT COUNTS. Prove the row's statement (the work); the ties are given (YtakgdihocejmiaaDoorTie.lean); close each card by the builder's one call (the guide's Derived/Test/ToyasCard.lean, 'card_holds'). Laid BY PROGRAM, IN A SANDBOX (cutbox-door.mjs). By AI agents, Wed Nov 11 2026. No macro, syntax, notation, axiom, sorry.
-/
import Derived.Test.YtakgdihocejmiaaDoorRows
import GoSem.ClaimSeven
namespace Go.Proofs.YtakgdihocejmiaaDoor
namespace Rows

/-- THE TIED CARD OF 'oriellaw03.AddrNames'. -/
def addrNamesCard : Claim7 := { stood := { row := addrNamesRow, standIns := [], harness := (true, "8a8c0814b60213407a57bab0daddda0ec7e4026b68750b25fe1271255ed8088d"), looks := false }, kinds := [], alts := [], laidByText := true, laidKinds := [.data, .data, .data], laidTests := true, laidLooks := .later }
def AddrNamesCardSaid : Prop := Claim7.holds Tryd.pinned (.plain (OpenSpec.ofChange addrNamesSpec)) addrNamesCard

/-- THE TIED CARD OF 'oriellaw03.AddrBack'. -/
def addrBackCard : Claim7 := { stood := { row := addrBackRow, standIns := [], harness := (true, "8a8c0814b60213407a57bab0daddda0ec7e4026b68750b25fe1271255ed8088d"), looks := false }, kinds := [], alts := [], laidByText := true, laidKinds := [.data, .data, .data], laidTests := true, laidLooks := .later }
def AddrBackCardSaid : Prop := Claim7.holds Tryd.pinned (.plain (OpenSpec.ofChange addrBackSpec)) addrBackCard

/-- THE TIED CARD OF 'oriellaw03.AddrOne'. -/
def addrOneCard : Claim7 := { stood := { row := addrOneRow, standIns := [], harness := (true, "8a8c0814b60213407a57bab0daddda0ec7e4026b68750b25fe1271255ed8088d"), looks := false }, kinds := [], alts := [], laidByText := true, laidKinds := [.data, .data, .data], laidTests := true, laidLooks := .later }
def AddrOneCardSaid : Prop := Claim7.holds Tryd.pinned (.plain (OpenSpec.ofChange addrOneSpec)) addrOneCard

/-- THE SECOND FORM's CARD OF 'oriellaw03.AddrNames'. -/
def addrNamesUptoCard : Claim7 := { stood := { row := addrNamesUptoRow, standIns := [], harness := (true, "8a8c0814b60213407a57bab0daddda0ec7e4026b68750b25fe1271255ed8088d"), looks := false }, kinds := [], alts := [], laidByText := true, laidKinds := [.data, .data, .data], laidTests := true, laidLooks := .later }
def AddrNamesUptoCardSaid : Prop := Claim7.holds Tryd.pinned (.plain (OpenSpec.upto addrNamesSpec)) addrNamesUptoCard

/-- THE SECOND FORM's CARD OF 'oriellaw03.AddrBack'. -/
def addrBackUptoCard : Claim7 := { stood := { row := addrBackUptoRow, standIns := [], harness := (true, "8a8c0814b60213407a57bab0daddda0ec7e4026b68750b25fe1271255ed8088d"), looks := false }, kinds := [], alts := [], laidByText := true, laidKinds := [.data, .data, .data], laidTests := true, laidLooks := .later }
def AddrBackUptoCardSaid : Prop := Claim7.holds Tryd.pinned (.plain (OpenSpec.upto addrBackSpec)) addrBackUptoCard

/-- THE SECOND FORM's CARD OF 'oriellaw03.AddrOne'. -/
def addrOneUptoCard : Claim7 := { stood := { row := addrOneUptoRow, standIns := [], harness := (true, "8a8c0814b60213407a57bab0daddda0ec7e4026b68750b25fe1271255ed8088d"), looks := false }, kinds := [], alts := [], laidByText := true, laidKinds := [.data, .data, .data], laidTests := true, laidLooks := .later }
def AddrOneUptoCardSaid : Prop := Claim7.holds Tryd.pinned (.plain (OpenSpec.upto addrOneSpec)) addrOneUptoCard
end Rows
end Go.Proofs.YtakgdihocejmiaaDoor
