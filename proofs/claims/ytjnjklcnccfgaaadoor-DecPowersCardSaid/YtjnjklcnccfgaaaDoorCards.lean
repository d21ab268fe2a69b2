/-
  DERIVED. GIVEN WITH THE SEED: THE CARDS: each row of YtjnjklcnccfgaaaDoorRows.lean that lists a variable, with what it lists TIED to the program's text (the seventh form; the later family's looks); each row that meets fmt, with fmt's text TOLD by the authors' own Lean function (tested against real Go, not proved from fmt's source: count such statements apart). THE CARD IS WHAT COUNTS. Prove the row's statement (the work); the ties are given (YtjnjklcnccfgaaaDoorTie.lean); close each card by the builder's one call (the guide's Derived/Test/ToyasCard.lean, 'card_holds'). Laid BY PROGRAM, IN A SANDBOX (cutbox-door.mjs). By AI agents, Wed Nov 11 2026. No macro, syntax, notation, axiom, sorry.
-/
import Derived.Test.YtjnjklcnccfgaaaDoorRows
import GoSem.ClaimSeven
namespace Go.Proofs.YtjnjklcnccfgaaaDoor
namespace Rows

/-- THE TIED CARD OF 'oriellaw02.ValueMay'. -/
def valueMayCard : Claim7 := { stood := { row := valueMayRow, standIns := [], harness := (true, "cbc3fa9703121d47aed374a7b80fb1c86b16b7e681c34e37732ee427cea46990"), looks := true }, kinds := [], alts := [], laidByText := true, laidKinds := [.data, .data, .data, .data, .pinned], laidTests := true, laidLooks := .later }
def ValueMayCardSaid : Prop := Claim7.holds Tryd.pinned (.plain (OpenSpec.ofChange valueMaySpec)) valueMayCard

/-- THE TIED CARD OF 'oriellaw02.ValueOrders'. -/
def valueOrdersCard : Claim7 := { stood := { row := valueOrdersRow, standIns := [], harness := (true, "cbc3fa9703121d47aed374a7b80fb1c86b16b7e681c34e37732ee427cea46990"), looks := true }, kinds := [], alts := [], laidByText := true, laidKinds := [.data, .data, .data, .data, .pinned], laidTests := true, laidLooks := .later }
def ValueOrdersCardSaid : Prop := Claim7.holds Tryd.pinned (.plain (OpenSpec.ofChange valueOrdersSpec)) valueOrdersCard

/-- THE TIED CARD OF 'oriellaw02.ValueNames'. -/
def valueNamesCard : Claim7 := { stood := { row := valueNamesRow, standIns := [], harness := (true, "cbc3fa9703121d47aed374a7b80fb1c86b16b7e681c34e37732ee427cea46990"), looks := true }, kinds := [], alts := [], laidByText := true, laidKinds := [.data, .data, .data, .data, .pinned], laidTests := true, laidLooks := .later }
def ValueNamesCardSaid : Prop := Claim7.holds Tryd.pinned (.plain (OpenSpec.ofChange valueNamesSpec)) valueNamesCard

/-- THE TIED CARD OF 'oriellaw02.ValueOrder'. -/
def valueOrderCard : Claim7 := { stood := { row := valueOrderRow, standIns := [], harness := (true, "cbc3fa9703121d47aed374a7b80fb1c86b16b7e681c34e37732ee427cea46990"), looks := true }, kinds := [], alts := [], laidByText := true, laidKinds := [.data, .data, .data, .data, .pinned], laidTests := true, laidLooks := .later }
def ValueOrderCardSaid : Prop := Claim7.holds Tryd.pinned (.plain (OpenSpec.ofChange valueOrderSpec)) valueOrderCard

/-- THE TIED CARD OF 'oriellaw02.ValueMakes'. -/
def valueMakesCard : Claim7 := { stood := { row := valueMakesRow, standIns := [], harness := (true, "cbc3fa9703121d47aed374a7b80fb1c86b16b7e681c34e37732ee427cea46990"), looks := true }, kinds := [], alts := [], laidByText := true, laidKinds := [.data, .data, .data, .data, .pinned], laidTests := true, laidLooks := .later }
def ValueMakesCardSaid : Prop := Claim7.holds Tryd.pinned (.plain (OpenSpec.ofChange valueMakesSpec)) valueMakesCard

/-- THE TIED CARD OF 'oriellaw02.ValueTakes'. -/
def valueTakesCard : Claim7 := { stood := { row := valueTakesRow, standIns := [], harness := (true, "cbc3fa9703121d47aed374a7b80fb1c86b16b7e681c34e37732ee427cea46990"), looks := true }, kinds := [], alts := [], laidByText := true, laidKinds := [.data, .data, .data, .data, .pinned], laidTests := true, laidLooks := .later }
def ValueTakesCardSaid : Prop := Claim7.holds Tryd.pinned (.plain (OpenSpec.ofChange valueTakesSpec)) valueTakesCard

/-- THE TIED CARD OF 'oriellaw01.DecReads'. -/
def decReadsCard : Claim7 := { stood := { row := decReadsRow, standIns := [], harness := (true, "cbc3fa9703121d47aed374a7b80fb1c86b16b7e681c34e37732ee427cea46990"), looks := true }, kinds := [], alts := [], laidByText := true, laidKinds := [.data, .data, .data, .data, .sentinel, .sentinel, .pinned], laidTests := true, laidLooks := .later }
def DecReadsCardSaid : Prop := Claim7.holds Tryd.pinned (.plain (OpenSpec.ofChange decReadsSpec)) decReadsCard

/-- THE TIED CARD OF 'oriellaw01.DecWrites'. -/
def decWritesCard : Claim7 := { stood := { row := decWritesRow, standIns := [], harness := (true, "cbc3fa9703121d47aed374a7b80fb1c86b16b7e681c34e37732ee427cea46990"), looks := true }, kinds := [], alts := [], laidByText := true, laidKinds := [.data, .data, .data, .data, .sentinel, .sentinel, .pinned], laidTests := true, laidLooks := .later }
def DecWritesCardSaid : Prop := Claim7.holds Tryd.pinned (.plain (OpenSpec.ofChange decWritesSpec)) decWritesCard

/-- THE TIED CARD OF 'oriellaw01.DecSums'. -/
def decSumsCard : Claim7 := { stood := { row := decSumsRow, standIns := [], harness := (true, "cbc3fa9703121d47aed374a7b80fb1c86b16b7e681c34e37732ee427cea46990"), looks := true }, kinds := [], alts := [], laidByText := true, laidKinds := [.data, .data, .data, .data, .sentinel, .sentinel, .pinned], laidTests := true, laidLooks := .later }
def DecSumsCardSaid : Prop := Claim7.holds Tryd.pinned (.plain (OpenSpec.ofChange decSumsSpec)) decSumsCard

/-- THE TIED CARD OF 'oriellaw01.DecRing'. -/
def decRingCard : Claim7 := { stood := { row := decRingRow, standIns := [], harness := (true, "cbc3fa9703121d47aed374a7b80fb1c86b16b7e681c34e37732ee427cea46990"), looks := true }, kinds := [], alts := [], laidByText := true, laidKinds := [.data, .data, .data, .data, .sentinel, .sentinel, .pinned], laidTests := true, laidLooks := .later }
def DecRingCardSaid : Prop := Claim7.holds Tryd.pinned (.plain (OpenSpec.ofChange decRingSpec)) decRingCard

/-- THE TIED CARD OF 'oriellaw01.DecModulo'. -/
def decModuloCard : Claim7 := { stood := { row := decModuloRow, standIns := [], harness := (true, "cbc3fa9703121d47aed374a7b80fb1c86b16b7e681c34e37732ee427cea46990"), looks := true }, kinds := [], alts := [], laidByText := true, laidKinds := [.data, .data, .data, .data, .sentinel, .sentinel, .pinned], laidTests := true, laidLooks := .later }
def DecModuloCardSaid : Prop := Claim7.holds Tryd.pinned (.plain (OpenSpec.ofChange decModuloSpec)) decModuloCard

/-- THE TIED CARD OF 'oriellaw01.DecProducts'. -/
def decProductsCard : Claim7 := { stood := { row := decProductsRow, standIns := [], harness := (true, "cbc3fa9703121d47aed374a7b80fb1c86b16b7e681c34e37732ee427cea46990"), looks := true }, kinds := [], alts := [], laidByText := true, laidKinds := [.data, .data, .data, .data, .sentinel, .sentinel, .pinned], laidTests := true, laidLooks := .later }
def DecProductsCardSaid : Prop := Claim7.holds Tryd.pinned (.plain (OpenSpec.ofChange decProductsSpec)) decProductsCard

/-- THE TIED CARD OF 'oriellaw01.DecRounds'. -/
def decRoundsCard : Claim7 := { stood := { row := decRoundsRow, standIns := [], harness := (true, "cbc3fa9703121d47aed374a7b80fb1c86b16b7e681c34e37732ee427cea46990"), looks := true }, kinds := [], alts := [], laidByText := true, laidKinds := [.data, .data, .data, .data, .sentinel, .sentinel, .pinned], laidTests := true, laidLooks := .later }
def DecRoundsCardSaid : Prop := Claim7.holds Tryd.pinned (.plain (OpenSpec.ofChange decRoundsSpec)) decRoundsCard

/-- THE TIED CARD OF 'oriellaw01.DecOrder'. -/
def decOrderCard : Claim7 := { stood := { row := decOrderRow, standIns := [], harness := (true, "cbc3fa9703121d47aed374a7b80fb1c86b16b7e681c34e37732ee427cea46990"), looks := true }, kinds := [], alts := [], laidByText := true, laidKinds := [.data, .data, .data, .data, .sentinel, .sentinel, .pinned], laidTests := true, laidLooks := .later }
def DecOrderCardSaid : Prop := Claim7.holds Tryd.pinned (.plain (OpenSpec.ofChange decOrderSpec)) decOrderCard

/-- THE TIED CARD OF 'oriellaw01.DecPowers'. -/
def decPowersCard : Claim7 := { stood := { row := decPowersRow, standIns := [], harness := (true, "cbc3fa9703121d47aed374a7b80fb1c86b16b7e681c34e37732ee427cea46990"), looks := true }, kinds := [], alts := [], laidByText := true, laidKinds := [.data, .data, .data, .data, .sentinel, .sentinel, .pinned], laidTests := true, laidLooks := .later }
def DecPowersCardSaid : Prop := Claim7.holds Tryd.pinned (.plain (OpenSpec.ofChange decPowersSpec)) decPowersCard

/-- THE SECOND FORM's CARD OF 'oriellaw02.ValueMay'. -/
def valueMayUptoCard : Claim7 := { stood := { row := valueMayUptoRow, standIns := [], harness := (true, "cbc3fa9703121d47aed374a7b80fb1c86b16b7e681c34e37732ee427cea46990"), looks := true }, kinds := [], alts := [], laidByText := true, laidKinds := [.data, .data, .data, .data, .pinned], laidTests := true, laidLooks := .later }
def ValueMayUptoCardSaid : Prop := Claim7.holds Tryd.pinned (.plain (OpenSpec.upto valueMaySpec)) valueMayUptoCard

/-- THE SECOND FORM's CARD OF 'oriellaw02.ValueOrders'. -/
def valueOrdersUptoCard : Claim7 := { stood := { row := valueOrdersUptoRow, standIns := [], harness := (true, "cbc3fa9703121d47aed374a7b80fb1c86b16b7e681c34e37732ee427cea46990"), looks := true }, kinds := [], alts := [], laidByText := true, laidKinds := [.data, .data, .data, .data, .pinned], laidTests := true, laidLooks := .later }
def ValueOrdersUptoCardSaid : Prop := Claim7.holds Tryd.pinned (.plain (OpenSpec.upto valueOrdersSpec)) valueOrdersUptoCard

/-- THE SECOND FORM's CARD OF 'oriellaw02.ValueNames'. -/
def valueNamesUptoCard : Claim7 := { stood := { row := valueNamesUptoRow, standIns := [], harness := (true, "cbc3fa9703121d47aed374a7b80fb1c86b16b7e681c34e37732ee427cea46990"), looks := true }, kinds := [], alts := [], laidByText := true, laidKinds := [.data, .data, .data, .data, .pinned], laidTests := true, laidLooks := .later }
def ValueNamesUptoCardSaid : Prop := Claim7.holds Tryd.pinned (.plain (OpenSpec.upto valueNamesSpec)) valueNamesUptoCard

/-- THE SECOND FORM's CARD OF 'oriellaw02.ValueOrder'. -/
def valueOrderUptoCard : Claim7 := { stood := { row := valueOrderUptoRow, standIns := [], harness := (true, "cbc3fa9703121d47aed374a7b80fb1c86b16b7e681c34e37732ee427cea46990"), looks := true }, kinds := [], alts := [], laidByText := true, laidKinds := [.data, .data, .data, .data, .pinned], laidTests := true, laidLooks := .later }
def ValueOrderUptoCardSaid : Prop := Claim7.holds Tryd.pinned (.plain (OpenSpec.upto valueOrderSpec)) valueOrderUptoCard

/-- THE SECOND FORM's CARD OF 'oriellaw02.ValueMakes'. -/
def valueMakesUptoCard : Claim7 := { stood := { row := valueMakesUptoRow, standIns := [], harness := (true, "cbc3fa9703121d47aed374a7b80fb1c86b16b7e681c34e37732ee427cea46990"), looks := true }, kinds := [], alts := [], laidByText := true, laidKinds := [.data, .data, .data, .data, .pinned], laidTests := true, laidLooks := .later }
def ValueMakesUptoCardSaid : Prop := Claim7.holds Tryd.pinned (.plain (OpenSpec.upto valueMakesSpec)) valueMakesUptoCard

/-- THE SECOND FORM's CARD OF 'oriellaw02.ValueTakes'. -/
def valueTakesUptoCard : Claim7 := { stood := { row := valueTakesUptoRow, standIns := [], harness := (true, "cbc3fa9703121d47aed374a7b80fb1c86b16b7e681c34e37732ee427cea46990"), looks := true }, kinds := [], alts := [], laidByText := true, laidKinds := [.data, .data, .data, .data, .pinned], laidTests := true, laidLooks := .later }
def ValueTakesUptoCardSaid : Prop := Claim7.holds Tryd.pinned (.plain (OpenSpec.upto valueTakesSpec)) valueTakesUptoCard

/-- THE SECOND FORM's CARD OF 'oriellaw01.DecReads'. -/
def decReadsUptoCard : Claim7 := { stood := { row := decReadsUptoRow, standIns := [], harness := (true, "cbc3fa9703121d47aed374a7b80fb1c86b16b7e681c34e37732ee427cea46990"), looks := true }, kinds := [], alts := [], laidByText := true, laidKinds := [.data, .data, .data, .data, .sentinel, .sentinel, .pinned], laidTests := true, laidLooks := .later }
def DecReadsUptoCardSaid : Prop := Claim7.holds Tryd.pinned (.plain (OpenSpec.upto decReadsSpec)) decReadsUptoCard

/-- THE SECOND FORM's CARD OF 'oriellaw01.DecWrites'. -/
def decWritesUptoCard : Claim7 := { stood := { row := decWritesUptoRow, standIns := [], harness := (true, "cbc3fa9703121d47aed374a7b80fb1c86b16b7e681c34e37732ee427cea46990"), looks := true }, kinds := [], alts := [], laidByText := true, laidKinds := [.data, .data, .data, .data, .sentinel, .sentinel, .pinned], laidTests := true, laidLooks := .later }
def DecWritesUptoCardSaid : Prop := Claim7.holds Tryd.pinned (.plain (OpenSpec.upto decWritesSpec)) decWritesUptoCard

/-- THE SECOND FORM's CARD OF 'oriellaw01.DecSums'. -/
def decSumsUptoCard : Claim7 := { stood := { row := decSumsUptoRow, standIns := [], harness := (true, "cbc3fa9703121d47aed374a7b80fb1c86b16b7e681c34e37732ee427cea46990"), looks := true }, kinds := [], alts := [], laidByText := true, laidKinds := [.data, .data, .data, .data, .sentinel, .sentinel, .pinned], laidTests := true, laidLooks := .later }
def DecSumsUptoCardSaid : Prop := Claim7.holds Tryd.pinned (.plain (OpenSpec.upto decSumsSpec)) decSumsUptoCard

/-- THE SECOND FORM's CARD OF 'oriellaw01.DecRing'. -/
def decRingUptoCard : Claim7 := { stood := { row := decRingUptoRow, standIns := [], harness := (true, "cbc3fa9703121d47aed374a7b80fb1c86b16b7e681c34e37732ee427cea46990"), looks := true }, kinds := [], alts := [], laidByText := true, laidKinds := [.data, .data, .data, .data, .sentinel, .sentinel, .pinned], laidTests := true, laidLooks := .later }
def DecRingUptoCardSaid : Prop := Claim7.holds Tryd.pinned (.plain (OpenSpec.upto decRingSpec)) decRingUptoCard

/-- THE SECOND FORM's CARD OF 'oriellaw01.DecModulo'. -/
def decModuloUptoCard : Claim7 := { stood := { row := decModuloUptoRow, standIns := [], harness := (true, "cbc3fa9703121d47aed374a7b80fb1c86b16b7e681c34e37732ee427cea46990"), looks := true }, kinds := [], alts := [], laidByText := true, laidKinds := [.data, .data, .data, .data, .sentinel, .sentinel, .pinned], laidTests := true, laidLooks := .later }
def DecModuloUptoCardSaid : Prop := Claim7.holds Tryd.pinned (.plain (OpenSpec.upto decModuloSpec)) decModuloUptoCard

/-- THE SECOND FORM's CARD OF 'oriellaw01.DecProducts'. -/
def decProductsUptoCard : Claim7 := { stood := { row := decProductsUptoRow, standIns := [], harness := (true, "cbc3fa9703121d47aed374a7b80fb1c86b16b7e681c34e37732ee427cea46990"), looks := true }, kinds := [], alts := [], laidByText := true, laidKinds := [.data, .data, .data, .data, .sentinel, .sentinel, .pinned], laidTests := true, laidLooks := .later }
def DecProductsUptoCardSaid : Prop := Claim7.holds Tryd.pinned (.plain (OpenSpec.upto decProductsSpec)) decProductsUptoCard

/-- THE SECOND FORM's CARD OF 'oriellaw01.DecRounds'. -/
def decRoundsUptoCard : Claim7 := { stood := { row := decRoundsUptoRow, standIns := [], harness := (true, "cbc3fa9703121d47aed374a7b80fb1c86b16b7e681c34e37732ee427cea46990"), looks := true }, kinds := [], alts := [], laidByText := true, laidKinds := [.data, .data, .data, .data, .sentinel, .sentinel, .pinned], laidTests := true, laidLooks := .later }
def DecRoundsUptoCardSaid : Prop := Claim7.holds Tryd.pinned (.plain (OpenSpec.upto decRoundsSpec)) decRoundsUptoCard

/-- THE SECOND FORM's CARD OF 'oriellaw01.DecOrder'. -/
def decOrderUptoCard : Claim7 := { stood := { row := decOrderUptoRow, standIns := [], harness := (true, "cbc3fa9703121d47aed374a7b80fb1c86b16b7e681c34e37732ee427cea46990"), looks := true }, kinds := [], alts := [], laidByText := true, laidKinds := [.data, .data, .data, .data, .sentinel, .sentinel, .pinned], laidTests := true, laidLooks := .later }
def DecOrderUptoCardSaid : Prop := Claim7.holds Tryd.pinned (.plain (OpenSpec.upto decOrderSpec)) decOrderUptoCard

/-- THE SECOND FORM's CARD OF 'oriellaw01.DecPowers'. -/
def decPowersUptoCard : Claim7 := { stood := { row := decPowersUptoRow, standIns := [], harness := (true, "cbc3fa9703121d47aed374a7b80fb1c86b16b7e681c34e37732ee427cea46990"), looks := true }, kinds := [], alts := [], laidByText := true, laidKinds := [.data, .data, .data, .data, .sentinel, .sentinel, .pinned], laidTests := true, laidLooks := .later }
def DecPowersUptoCardSaid : Prop := Claim7.holds Tryd.pinned (.plain (OpenSpec.upto decPowersSpec)) decPowersUptoCard
end Rows
end Go.Proofs.YtjnjklcnccfgaaaDoor
