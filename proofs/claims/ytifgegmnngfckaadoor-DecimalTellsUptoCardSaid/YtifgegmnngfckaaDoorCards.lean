/-
  DERIVED. GIVEN WITH THE SEED: THE CARDS: each row of YtifgegmnngfckaaDoorRows.lean that lists a variable, with what it lists TIED to the program's text (the seventh form; the later family's looks); each row that meets fmt, with fmt's text TOLD by the authors' own Lean function (tested against real Go, not proved from fmt's source: count such statements apart). THE CARD IS WHAT COUNTS. Prove the row's statement (the work); the ties are given (YtifgegmnngfckaaDoorTie.lean); close each card by the builder's one call (the guide's Derived/Test/ToyasCard.lean, 'card_holds'). Laid BY PROGRAM, IN A SANDBOX (cutbox-door.mjs). By AI agents, Wed Nov 11 2026. No macro, syntax, notation, axiom, sorry.
-/
import Derived.Test.YtifgegmnngfckaaDoorRows
import GoSem.ClaimSeven
namespace Go.Proofs.YtifgegmnngfckaaDoor
namespace Rows

/-- THE TIED CARD OF 'humpyardlaw02.QuoteTells'. -/
def quoteTellsCard : Claim7 := { stood := { row := quoteTellsRow, standIns := [], harness := (true, "5fdaa73626ca73c9c7b33a10a541ec5a0bae1f14d23dad7c852ed8f7187279d6"), looks := true }, kinds := [], alts := [], laidByText := true, laidKinds := [.data, .data, .data, .data, .sentinel, .sentinel, .pinned], laidTests := true, laidLooks := .later }
def QuoteTellsCardSaid : Prop := Claim7.holds Tryd.pinned (.plain (OpenSpec.ofChange quoteTellsSpec)) quoteTellsCard

/-- THE TIED CARD OF 'humpyardlaw02.QuoteBack'. -/
def quoteBackCard : Claim7 := { stood := { row := quoteBackRow, standIns := [], harness := (true, "5fdaa73626ca73c9c7b33a10a541ec5a0bae1f14d23dad7c852ed8f7187279d6"), looks := true }, kinds := [], alts := [], laidByText := true, laidKinds := [.data, .data, .data, .data, .sentinel, .sentinel, .pinned], laidTests := true, laidLooks := .later }
def QuoteBackCardSaid : Prop := Claim7.holds Tryd.pinned (.plain (OpenSpec.ofChange quoteBackSpec)) quoteBackCard

/-- THE TIED CARD OF 'humpyardlaw02.QuoteForth'. -/
def quoteForthCard : Claim7 := { stood := { row := quoteForthRow, standIns := [], harness := (true, "5fdaa73626ca73c9c7b33a10a541ec5a0bae1f14d23dad7c852ed8f7187279d6"), looks := true }, kinds := [], alts := [], laidByText := true, laidKinds := [.data, .data, .data, .data, .sentinel, .sentinel, .pinned], laidTests := true, laidLooks := .later }
def QuoteForthCardSaid : Prop := Claim7.holds Tryd.pinned (.plain (OpenSpec.ofChange quoteForthSpec)) quoteForthCard

/-- THE TIED CARD OF 'humpyardlaw02.QuotePlain'. -/
def quotePlainCard : Claim7 := { stood := { row := quotePlainRow, standIns := [], harness := (true, "5fdaa73626ca73c9c7b33a10a541ec5a0bae1f14d23dad7c852ed8f7187279d6"), looks := true }, kinds := [], alts := [], laidByText := true, laidKinds := [.data, .data, .data, .data, .sentinel, .sentinel, .pinned], laidTests := true, laidLooks := .later }
def QuotePlainCardSaid : Prop := Claim7.holds Tryd.pinned (.plain (OpenSpec.ofChange quotePlainSpec)) quotePlainCard

/-- THE TIED CARD OF 'humpyardlaw02.QuoteUnits'. -/
def quoteUnitsCard : Claim7 := { stood := { row := quoteUnitsRow, standIns := [], harness := (true, "5fdaa73626ca73c9c7b33a10a541ec5a0bae1f14d23dad7c852ed8f7187279d6"), looks := true }, kinds := [], alts := [], laidByText := true, laidKinds := [.data, .data, .data, .data, .sentinel, .sentinel, .pinned], laidTests := true, laidLooks := .later }
def QuoteUnitsCardSaid : Prop := Claim7.holds Tryd.pinned (.plain (OpenSpec.ofChange quoteUnitsSpec)) quoteUnitsCard

/-- THE TIED CARD OF 'humpyardlaw02.QuoteCut'. -/
def quoteCutCard : Claim7 := { stood := { row := quoteCutRow, standIns := [], harness := (true, "5fdaa73626ca73c9c7b33a10a541ec5a0bae1f14d23dad7c852ed8f7187279d6"), looks := true }, kinds := [], alts := [], laidByText := true, laidKinds := [.data, .data, .data, .data, .sentinel, .sentinel, .pinned], laidTests := true, laidLooks := .later }
def QuoteCutCardSaid : Prop := Claim7.holds Tryd.pinned (.plain (OpenSpec.ofChange quoteCutSpec)) quoteCutCard

/-- THE TIED CARD OF 'humpyardlaw02.QuoteWhole'. -/
def quoteWholeCard : Claim7 := { stood := { row := quoteWholeRow, standIns := [], harness := (true, "5fdaa73626ca73c9c7b33a10a541ec5a0bae1f14d23dad7c852ed8f7187279d6"), looks := true }, kinds := [], alts := [], laidByText := true, laidKinds := [.data, .data, .data, .data, .sentinel, .sentinel, .pinned], laidTests := true, laidLooks := .later }
def QuoteWholeCardSaid : Prop := Claim7.holds Tryd.pinned (.plain (OpenSpec.ofChange quoteWholeSpec)) quoteWholeCard

/-- THE TIED CARD OF 'humpyardlaw01.DecimalBack'. -/
def decimalBackCard : Claim7 := { stood := { row := decimalBackRow, standIns := [], harness := (true, "5fdaa73626ca73c9c7b33a10a541ec5a0bae1f14d23dad7c852ed8f7187279d6"), looks := true }, kinds := [], alts := [], laidByText := true, laidKinds := [.data, .data, .data, .data, .sentinel, .sentinel, .pinned], laidTests := true, laidLooks := .later }
def DecimalBackCardSaid : Prop := Claim7.holds Tryd.pinned (.plain (OpenSpec.ofChange decimalBackSpec)) decimalBackCard

/-- THE TIED CARD OF 'humpyardlaw01.DecimalSame'. -/
def decimalSameCard : Claim7 := { stood := { row := decimalSameRow, standIns := [], harness := (true, "5fdaa73626ca73c9c7b33a10a541ec5a0bae1f14d23dad7c852ed8f7187279d6"), looks := true }, kinds := [], alts := [], laidByText := true, laidKinds := [.data, .data, .data, .data, .sentinel, .sentinel, .pinned], laidTests := true, laidLooks := .later }
def DecimalSameCardSaid : Prop := Claim7.holds Tryd.pinned (.plain (OpenSpec.ofChange decimalSameSpec)) decimalSameCard

/-- THE TIED CARD OF 'humpyardlaw01.DecimalMoves'. -/
def decimalMovesCard : Claim7 := { stood := { row := decimalMovesRow, standIns := [], harness := (true, "5fdaa73626ca73c9c7b33a10a541ec5a0bae1f14d23dad7c852ed8f7187279d6"), looks := true }, kinds := [], alts := [], laidByText := true, laidKinds := [.data, .data, .data, .data, .sentinel, .sentinel, .pinned], laidTests := true, laidLooks := .later }
def DecimalMovesCardSaid : Prop := Claim7.holds Tryd.pinned (.plain (OpenSpec.ofChange decimalMovesSpec)) decimalMovesCard

/-- THE TIED CARD OF 'humpyardlaw01.DecimalShort'. -/
def decimalShortCard : Claim7 := { stood := { row := decimalShortRow, standIns := [], harness := (true, "5fdaa73626ca73c9c7b33a10a541ec5a0bae1f14d23dad7c852ed8f7187279d6"), looks := true }, kinds := [], alts := [], laidByText := true, laidKinds := [.data, .data, .data, .data, .sentinel, .sentinel, .pinned], laidTests := true, laidLooks := .later }
def DecimalShortCardSaid : Prop := Claim7.holds Tryd.pinned (.plain (OpenSpec.ofChange decimalShortSpec)) decimalShortCard

/-- THE TIED CARD OF 'humpyardlaw01.DecimalOrder'. -/
def decimalOrderCard : Claim7 := { stood := { row := decimalOrderRow, standIns := [], harness := (true, "5fdaa73626ca73c9c7b33a10a541ec5a0bae1f14d23dad7c852ed8f7187279d6"), looks := true }, kinds := [], alts := [], laidByText := true, laidKinds := [.data, .data, .data, .data, .sentinel, .sentinel, .pinned], laidTests := true, laidLooks := .later }
def DecimalOrderCardSaid : Prop := Claim7.holds Tryd.pinned (.plain (OpenSpec.ofChange decimalOrderSpec)) decimalOrderCard

/-- THE TIED CARD OF 'humpyardlaw01.DecimalTells'. -/
def decimalTellsCard : Claim7 := { stood := { row := decimalTellsRow, standIns := [], harness := (true, "5fdaa73626ca73c9c7b33a10a541ec5a0bae1f14d23dad7c852ed8f7187279d6"), looks := true }, kinds := [], alts := [], laidByText := true, laidKinds := [.data, .data, .data, .data, .sentinel, .sentinel, .pinned], laidTests := true, laidLooks := .later }
def DecimalTellsCardSaid : Prop := Claim7.holds Tryd.pinned (.plain (OpenSpec.ofChange decimalTellsSpec)) decimalTellsCard

/-- THE TIED CARD OF 'humpyardlaw01.DecimalSums'. -/
def decimalSumsCard : Claim7 := { stood := { row := decimalSumsRow, standIns := [], harness := (true, "5fdaa73626ca73c9c7b33a10a541ec5a0bae1f14d23dad7c852ed8f7187279d6"), looks := true }, kinds := [], alts := [], laidByText := true, laidKinds := [.data, .data, .data, .data, .sentinel, .sentinel, .pinned], laidTests := true, laidLooks := .later }
def DecimalSumsCardSaid : Prop := Claim7.holds Tryd.pinned (.plain (OpenSpec.ofChange decimalSumsSpec)) decimalSumsCard

/-- THE SECOND FORM's CARD OF 'humpyardlaw02.QuoteTells'. -/
def quoteTellsUptoCard : Claim7 := { stood := { row := quoteTellsUptoRow, standIns := [], harness := (true, "5fdaa73626ca73c9c7b33a10a541ec5a0bae1f14d23dad7c852ed8f7187279d6"), looks := true }, kinds := [], alts := [], laidByText := true, laidKinds := [.data, .data, .data, .data, .sentinel, .sentinel, .pinned], laidTests := true, laidLooks := .later }
def QuoteTellsUptoCardSaid : Prop := Claim7.holds Tryd.pinned (.plain (OpenSpec.upto quoteTellsSpec)) quoteTellsUptoCard

/-- THE SECOND FORM's CARD OF 'humpyardlaw02.QuoteBack'. -/
def quoteBackUptoCard : Claim7 := { stood := { row := quoteBackUptoRow, standIns := [], harness := (true, "5fdaa73626ca73c9c7b33a10a541ec5a0bae1f14d23dad7c852ed8f7187279d6"), looks := true }, kinds := [], alts := [], laidByText := true, laidKinds := [.data, .data, .data, .data, .sentinel, .sentinel, .pinned], laidTests := true, laidLooks := .later }
def QuoteBackUptoCardSaid : Prop := Claim7.holds Tryd.pinned (.plain (OpenSpec.upto quoteBackSpec)) quoteBackUptoCard

/-- THE SECOND FORM's CARD OF 'humpyardlaw02.QuoteForth'. -/
def quoteForthUptoCard : Claim7 := { stood := { row := quoteForthUptoRow, standIns := [], harness := (true, "5fdaa73626ca73c9c7b33a10a541ec5a0bae1f14d23dad7c852ed8f7187279d6"), looks := true }, kinds := [], alts := [], laidByText := true, laidKinds := [.data, .data, .data, .data, .sentinel, .sentinel, .pinned], laidTests := true, laidLooks := .later }
def QuoteForthUptoCardSaid : Prop := Claim7.holds Tryd.pinned (.plain (OpenSpec.upto quoteForthSpec)) quoteForthUptoCard

/-- THE SECOND FORM's CARD OF 'humpyardlaw02.QuotePlain'. -/
def quotePlainUptoCard : Claim7 := { stood := { row := quotePlainUptoRow, standIns := [], harness := (true, "5fdaa73626ca73c9c7b33a10a541ec5a0bae1f14d23dad7c852ed8f7187279d6"), looks := true }, kinds := [], alts := [], laidByText := true, laidKinds := [.data, .data, .data, .data, .sentinel, .sentinel, .pinned], laidTests := true, laidLooks := .later }
def QuotePlainUptoCardSaid : Prop := Claim7.holds Tryd.pinned (.plain (OpenSpec.upto quotePlainSpec)) quotePlainUptoCard

/-- THE SECOND FORM's CARD OF 'humpyardlaw02.QuoteUnits'. -/
def quoteUnitsUptoCard : Claim7 := { stood := { row := quoteUnitsUptoRow, standIns := [], harness := (true, "5fdaa73626ca73c9c7b33a10a541ec5a0bae1f14d23dad7c852ed8f7187279d6"), looks := true }, kinds := [], alts := [], laidByText := true, laidKinds := [.data, .data, .data, .data, .sentinel, .sentinel, .pinned], laidTests := true, laidLooks := .later }
def QuoteUnitsUptoCardSaid : Prop := Claim7.holds Tryd.pinned (.plain (OpenSpec.upto quoteUnitsSpec)) quoteUnitsUptoCard

/-- THE SECOND FORM's CARD OF 'humpyardlaw02.QuoteCut'. -/
def quoteCutUptoCard : Claim7 := { stood := { row := quoteCutUptoRow, standIns := [], harness := (true, "5fdaa73626ca73c9c7b33a10a541ec5a0bae1f14d23dad7c852ed8f7187279d6"), looks := true }, kinds := [], alts := [], laidByText := true, laidKinds := [.data, .data, .data, .data, .sentinel, .sentinel, .pinned], laidTests := true, laidLooks := .later }
def QuoteCutUptoCardSaid : Prop := Claim7.holds Tryd.pinned (.plain (OpenSpec.upto quoteCutSpec)) quoteCutUptoCard

/-- THE SECOND FORM's CARD OF 'humpyardlaw02.QuoteWhole'. -/
def quoteWholeUptoCard : Claim7 := { stood := { row := quoteWholeUptoRow, standIns := [], harness := (true, "5fdaa73626ca73c9c7b33a10a541ec5a0bae1f14d23dad7c852ed8f7187279d6"), looks := true }, kinds := [], alts := [], laidByText := true, laidKinds := [.data, .data, .data, .data, .sentinel, .sentinel, .pinned], laidTests := true, laidLooks := .later }
def QuoteWholeUptoCardSaid : Prop := Claim7.holds Tryd.pinned (.plain (OpenSpec.upto quoteWholeSpec)) quoteWholeUptoCard

/-- THE SECOND FORM's CARD OF 'humpyardlaw01.DecimalBack'. -/
def decimalBackUptoCard : Claim7 := { stood := { row := decimalBackUptoRow, standIns := [], harness := (true, "5fdaa73626ca73c9c7b33a10a541ec5a0bae1f14d23dad7c852ed8f7187279d6"), looks := true }, kinds := [], alts := [], laidByText := true, laidKinds := [.data, .data, .data, .data, .sentinel, .sentinel, .pinned], laidTests := true, laidLooks := .later }
def DecimalBackUptoCardSaid : Prop := Claim7.holds Tryd.pinned (.plain (OpenSpec.upto decimalBackSpec)) decimalBackUptoCard

/-- THE SECOND FORM's CARD OF 'humpyardlaw01.DecimalSame'. -/
def decimalSameUptoCard : Claim7 := { stood := { row := decimalSameUptoRow, standIns := [], harness := (true, "5fdaa73626ca73c9c7b33a10a541ec5a0bae1f14d23dad7c852ed8f7187279d6"), looks := true }, kinds := [], alts := [], laidByText := true, laidKinds := [.data, .data, .data, .data, .sentinel, .sentinel, .pinned], laidTests := true, laidLooks := .later }
def DecimalSameUptoCardSaid : Prop := Claim7.holds Tryd.pinned (.plain (OpenSpec.upto decimalSameSpec)) decimalSameUptoCard

/-- THE SECOND FORM's CARD OF 'humpyardlaw01.DecimalMoves'. -/
def decimalMovesUptoCard : Claim7 := { stood := { row := decimalMovesUptoRow, standIns := [], harness := (true, "5fdaa73626ca73c9c7b33a10a541ec5a0bae1f14d23dad7c852ed8f7187279d6"), looks := true }, kinds := [], alts := [], laidByText := true, laidKinds := [.data, .data, .data, .data, .sentinel, .sentinel, .pinned], laidTests := true, laidLooks := .later }
def DecimalMovesUptoCardSaid : Prop := Claim7.holds Tryd.pinned (.plain (OpenSpec.upto decimalMovesSpec)) decimalMovesUptoCard

/-- THE SECOND FORM's CARD OF 'humpyardlaw01.DecimalShort'. -/
def decimalShortUptoCard : Claim7 := { stood := { row := decimalShortUptoRow, standIns := [], harness := (true, "5fdaa73626ca73c9c7b33a10a541ec5a0bae1f14d23dad7c852ed8f7187279d6"), looks := true }, kinds := [], alts := [], laidByText := true, laidKinds := [.data, .data, .data, .data, .sentinel, .sentinel, .pinned], laidTests := true, laidLooks := .later }
def DecimalShortUptoCardSaid : Prop := Claim7.holds Tryd.pinned (.plain (OpenSpec.upto decimalShortSpec)) decimalShortUptoCard

/-- THE SECOND FORM's CARD OF 'humpyardlaw01.DecimalOrder'. -/
def decimalOrderUptoCard : Claim7 := { stood := { row := decimalOrderUptoRow, standIns := [], harness := (true, "5fdaa73626ca73c9c7b33a10a541ec5a0bae1f14d23dad7c852ed8f7187279d6"), looks := true }, kinds := [], alts := [], laidByText := true, laidKinds := [.data, .data, .data, .data, .sentinel, .sentinel, .pinned], laidTests := true, laidLooks := .later }
def DecimalOrderUptoCardSaid : Prop := Claim7.holds Tryd.pinned (.plain (OpenSpec.upto decimalOrderSpec)) decimalOrderUptoCard

/-- THE SECOND FORM's CARD OF 'humpyardlaw01.DecimalTells'. -/
def decimalTellsUptoCard : Claim7 := { stood := { row := decimalTellsUptoRow, standIns := [], harness := (true, "5fdaa73626ca73c9c7b33a10a541ec5a0bae1f14d23dad7c852ed8f7187279d6"), looks := true }, kinds := [], alts := [], laidByText := true, laidKinds := [.data, .data, .data, .data, .sentinel, .sentinel, .pinned], laidTests := true, laidLooks := .later }
def DecimalTellsUptoCardSaid : Prop := Claim7.holds Tryd.pinned (.plain (OpenSpec.upto decimalTellsSpec)) decimalTellsUptoCard

/-- THE SECOND FORM's CARD OF 'humpyardlaw01.DecimalSums'. -/
def decimalSumsUptoCard : Claim7 := { stood := { row := decimalSumsUptoRow, standIns := [], harness := (true, "5fdaa73626ca73c9c7b33a10a541ec5a0bae1f14d23dad7c852ed8f7187279d6"), looks := true }, kinds := [], alts := [], laidByText := true, laidKinds := [.data, .data, .data, .data, .sentinel, .sentinel, .pinned], laidTests := true, laidLooks := .later }
def DecimalSumsUptoCardSaid : Prop := Claim7.holds Tryd.pinned (.plain (OpenSpec.upto decimalSumsSpec)) decimalSumsUptoCard
end Rows
end Go.Proofs.YtifgegmnngfckaaDoor
