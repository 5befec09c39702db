/-
  DERIVED. GIVEN WITH THE SEED: THE CARDS: each row of YtmlkkgfenfdndaaGreatDoorRows.lean that lists a variable, with what it lists TIED to the program's text (the seventh form; the later family's looks); each row that meets fmt, with fmt's text TOLD by the authors' own Lean function (tested against real Go, not proved from fmt's source: count such statements apart). THE CARD IS WHAT COUNTS. Prove the row's statement (the work); the ties are given (YtmlkkgfenfdndaaGreatDoorTie.lean); close each card by the builder's one call (the guide's Derived/Test/ToyasCard.lean, 'card_holds'). Laid BY PROGRAM, IN A SANDBOX (cutbox-door.mjs). By AI agents, Wed Nov 11 2026. No macro, syntax, notation, axiom, sorry.
-/
import Derived.Test.YtmlkkgfenfdndaaGreatDoorRows
import GoSem.ClaimSeven
namespace Go.Proofs.YtmlkkgfenfdndaaGreatDoor
namespace Rows

/-- THE TIED CARD OF 'humpyardtop.TopTexts'. -/
def topTextsCard : Claim7 := { stood := { row := topTextsRow, standIns := [], harness := (true, "c7b4bb3b143159b74f018bbca8f9e9b352aed7ed5e7667f8350acb0c9275d58a"), looks := true }, kinds := [], alts := [], laidByText := true, laidKinds := [.data, .data, .data, .data, .sentinel, .sentinel, .pinned], laidTests := true, laidLooks := .later }
def TopTextsCardSaid : Prop := Claim7.holds Tryz.pinned (.plain (OpenSpec.ofChange topTextsSpec)) topTextsCard

/-- THE TIED CARD OF 'humpyardlaw03.LexerBack'. -/
def lexerBackCard : Claim7 := { stood := { row := lexerBackRow, standIns := [], harness := (true, "c7b4bb3b143159b74f018bbca8f9e9b352aed7ed5e7667f8350acb0c9275d58a"), looks := true }, kinds := [], alts := [], laidByText := true, laidKinds := [.data, .data, .data, .data, .sentinel, .sentinel, .pinned], laidTests := true, laidLooks := .later }
def LexerBackCardSaid : Prop := Claim7.holds Tryz.pinned (.plain (OpenSpec.ofChange lexerBackSpec)) lexerBackCard

/-- THE TIED CARD OF 'humpyardlaw03.LexerBlanks'. -/
def lexerBlanksCard : Claim7 := { stood := { row := lexerBlanksRow, standIns := [], harness := (true, "c7b4bb3b143159b74f018bbca8f9e9b352aed7ed5e7667f8350acb0c9275d58a"), looks := true }, kinds := [], alts := [], laidByText := true, laidKinds := [.data, .data, .data, .data, .sentinel, .sentinel, .pinned], laidTests := true, laidLooks := .later }
def LexerBlanksCardSaid : Prop := Claim7.holds Tryz.pinned (.plain (OpenSpec.ofChange lexerBlanksSpec)) lexerBlanksCard

/-- THE TIED CARD OF 'humpyardlaw03.LexerWhere'. -/
def lexerWhereCard : Claim7 := { stood := { row := lexerWhereRow, standIns := [], harness := (true, "c7b4bb3b143159b74f018bbca8f9e9b352aed7ed5e7667f8350acb0c9275d58a"), looks := true }, kinds := [], alts := [], laidByText := true, laidKinds := [.data, .data, .data, .data, .sentinel, .sentinel, .pinned], laidTests := true, laidLooks := .later }
def LexerWhereCardSaid : Prop := Claim7.holds Tryz.pinned (.plain (OpenSpec.ofChange lexerWhereSpec)) lexerWhereCard

/-- THE TIED CARD OF 'humpyardlaw03.LexerJoins'. -/
def lexerJoinsCard : Claim7 := { stood := { row := lexerJoinsRow, standIns := [], harness := (true, "c7b4bb3b143159b74f018bbca8f9e9b352aed7ed5e7667f8350acb0c9275d58a"), looks := true }, kinds := [], alts := [], laidByText := true, laidKinds := [.data, .data, .data, .data, .sentinel, .sentinel, .pinned], laidTests := true, laidLooks := .later }
def LexerJoinsCardSaid : Prop := Claim7.holds Tryz.pinned (.plain (OpenSpec.ofChange lexerJoinsSpec)) lexerJoinsCard

/-- THE TIED CARD OF 'humpyardlaw04.JsonTells'. -/
def jsonTellsCard : Claim7 := { stood := { row := jsonTellsRow, standIns := [], harness := (true, "c7b4bb3b143159b74f018bbca8f9e9b352aed7ed5e7667f8350acb0c9275d58a"), looks := true }, kinds := [], alts := [], laidByText := true, laidKinds := [.data, .data, .data, .data, .sentinel, .sentinel, .pinned], laidTests := true, laidLooks := .later }
def JsonTellsCardSaid : Prop := Claim7.holds Tryz.pinned (.plain (OpenSpec.ofChange jsonTellsSpec)) jsonTellsCard

/-- THE TIED CARD OF 'humpyardlaw04.JsonWords'. -/
def jsonWordsCard : Claim7 := { stood := { row := jsonWordsRow, standIns := [], harness := (true, "c7b4bb3b143159b74f018bbca8f9e9b352aed7ed5e7667f8350acb0c9275d58a"), looks := true }, kinds := [], alts := [], laidByText := true, laidKinds := [.data, .data, .data, .data, .sentinel, .sentinel, .pinned], laidTests := true, laidLooks := .later }
def JsonWordsCardSaid : Prop := Claim7.holds Tryz.pinned (.plain (OpenSpec.ofChange jsonWordsSpec)) jsonWordsCard

/-- THE TIED CARD OF 'humpyardlaw04.JsonBack'. -/
def jsonBackCard : Claim7 := { stood := { row := jsonBackRow, standIns := [], harness := (true, "c7b4bb3b143159b74f018bbca8f9e9b352aed7ed5e7667f8350acb0c9275d58a"), looks := true }, kinds := [], alts := [], laidByText := true, laidKinds := [.data, .data, .data, .data, .sentinel, .sentinel, .pinned], laidTests := true, laidLooks := .later }
def JsonBackCardSaid : Prop := Claim7.holds Tryz.pinned (.plain (OpenSpec.ofChange jsonBackSpec)) jsonBackCard

/-- THE TIED CARD OF 'humpyardlaw04.JsonAgain'. -/
def jsonAgainCard : Claim7 := { stood := { row := jsonAgainRow, standIns := [], harness := (true, "c7b4bb3b143159b74f018bbca8f9e9b352aed7ed5e7667f8350acb0c9275d58a"), looks := true }, kinds := [], alts := [], laidByText := true, laidKinds := [.data, .data, .data, .data, .sentinel, .sentinel, .pinned], laidTests := true, laidLooks := .later }
def JsonAgainCardSaid : Prop := Claim7.holds Tryz.pinned (.plain (OpenSpec.ofChange jsonAgainSpec)) jsonAgainCard

/-- THE TIED CARD OF 'humpyardlaw04.JsonApart'. -/
def jsonApartCard : Claim7 := { stood := { row := jsonApartRow, standIns := [], harness := (true, "c7b4bb3b143159b74f018bbca8f9e9b352aed7ed5e7667f8350acb0c9275d58a"), looks := true }, kinds := [], alts := [], laidByText := true, laidKinds := [.data, .data, .data, .data, .sentinel, .sentinel, .pinned], laidTests := true, laidLooks := .later }
def JsonApartCardSaid : Prop := Claim7.holds Tryz.pinned (.plain (OpenSpec.ofChange jsonApartSpec)) jsonApartCard

/-- THE TIED CARD OF 'humpyardlaw04.JsonSpread'. -/
def jsonSpreadCard : Claim7 := { stood := { row := jsonSpreadRow, standIns := [], harness := (true, "c7b4bb3b143159b74f018bbca8f9e9b352aed7ed5e7667f8350acb0c9275d58a"), looks := true }, kinds := [], alts := [], laidByText := true, laidKinds := [.data, .data, .data, .data, .sentinel, .sentinel, .pinned], laidTests := true, laidLooks := .later }
def JsonSpreadCardSaid : Prop := Claim7.holds Tryz.pinned (.plain (OpenSpec.ofChange jsonSpreadSpec)) jsonSpreadCard

/-- THE TIED CARD OF 'humpyardlaw04.JsonDeep'. -/
def jsonDeepCard : Claim7 := { stood := { row := jsonDeepRow, standIns := [], harness := (true, "c7b4bb3b143159b74f018bbca8f9e9b352aed7ed5e7667f8350acb0c9275d58a"), looks := true }, kinds := [], alts := [], laidByText := true, laidKinds := [.data, .data, .data, .data, .sentinel, .sentinel, .pinned], laidTests := true, laidLooks := .later }
def JsonDeepCardSaid : Prop := Claim7.holds Tryz.pinned (.plain (OpenSpec.ofChange jsonDeepSpec)) jsonDeepCard

/-- THE TIED CARD OF 'humpyardlaw04.JsonNames'. -/
def jsonNamesCard : Claim7 := { stood := { row := jsonNamesRow, standIns := [], harness := (true, "c7b4bb3b143159b74f018bbca8f9e9b352aed7ed5e7667f8350acb0c9275d58a"), looks := true }, kinds := [], alts := [], laidByText := true, laidKinds := [.data, .data, .data, .data, .sentinel, .sentinel, .pinned], laidTests := true, laidLooks := .later }
def JsonNamesCardSaid : Prop := Claim7.holds Tryz.pinned (.plain (OpenSpec.ofChange jsonNamesSpec)) jsonNamesCard

/-- THE SECOND FORM's CARD OF 'humpyardtop.TopTexts'. -/
def topTextsUptoCard : Claim7 := { stood := { row := topTextsUptoRow, standIns := [], harness := (true, "c7b4bb3b143159b74f018bbca8f9e9b352aed7ed5e7667f8350acb0c9275d58a"), looks := true }, kinds := [], alts := [], laidByText := true, laidKinds := [.data, .data, .data, .data, .sentinel, .sentinel, .pinned], laidTests := true, laidLooks := .later }
def TopTextsUptoCardSaid : Prop := Claim7.holds Tryz.pinned (.plain (OpenSpec.upto topTextsSpec)) topTextsUptoCard

/-- THE SECOND FORM's CARD OF 'humpyardlaw03.LexerBack'. -/
def lexerBackUptoCard : Claim7 := { stood := { row := lexerBackUptoRow, standIns := [], harness := (true, "c7b4bb3b143159b74f018bbca8f9e9b352aed7ed5e7667f8350acb0c9275d58a"), looks := true }, kinds := [], alts := [], laidByText := true, laidKinds := [.data, .data, .data, .data, .sentinel, .sentinel, .pinned], laidTests := true, laidLooks := .later }
def LexerBackUptoCardSaid : Prop := Claim7.holds Tryz.pinned (.plain (OpenSpec.upto lexerBackSpec)) lexerBackUptoCard

/-- THE SECOND FORM's CARD OF 'humpyardlaw03.LexerBlanks'. -/
def lexerBlanksUptoCard : Claim7 := { stood := { row := lexerBlanksUptoRow, standIns := [], harness := (true, "c7b4bb3b143159b74f018bbca8f9e9b352aed7ed5e7667f8350acb0c9275d58a"), looks := true }, kinds := [], alts := [], laidByText := true, laidKinds := [.data, .data, .data, .data, .sentinel, .sentinel, .pinned], laidTests := true, laidLooks := .later }
def LexerBlanksUptoCardSaid : Prop := Claim7.holds Tryz.pinned (.plain (OpenSpec.upto lexerBlanksSpec)) lexerBlanksUptoCard

/-- THE SECOND FORM's CARD OF 'humpyardlaw03.LexerWhere'. -/
def lexerWhereUptoCard : Claim7 := { stood := { row := lexerWhereUptoRow, standIns := [], harness := (true, "c7b4bb3b143159b74f018bbca8f9e9b352aed7ed5e7667f8350acb0c9275d58a"), looks := true }, kinds := [], alts := [], laidByText := true, laidKinds := [.data, .data, .data, .data, .sentinel, .sentinel, .pinned], laidTests := true, laidLooks := .later }
def LexerWhereUptoCardSaid : Prop := Claim7.holds Tryz.pinned (.plain (OpenSpec.upto lexerWhereSpec)) lexerWhereUptoCard

/-- THE SECOND FORM's CARD OF 'humpyardlaw03.LexerJoins'. -/
def lexerJoinsUptoCard : Claim7 := { stood := { row := lexerJoinsUptoRow, standIns := [], harness := (true, "c7b4bb3b143159b74f018bbca8f9e9b352aed7ed5e7667f8350acb0c9275d58a"), looks := true }, kinds := [], alts := [], laidByText := true, laidKinds := [.data, .data, .data, .data, .sentinel, .sentinel, .pinned], laidTests := true, laidLooks := .later }
def LexerJoinsUptoCardSaid : Prop := Claim7.holds Tryz.pinned (.plain (OpenSpec.upto lexerJoinsSpec)) lexerJoinsUptoCard

/-- THE SECOND FORM's CARD OF 'humpyardlaw04.JsonTells'. -/
def jsonTellsUptoCard : Claim7 := { stood := { row := jsonTellsUptoRow, standIns := [], harness := (true, "c7b4bb3b143159b74f018bbca8f9e9b352aed7ed5e7667f8350acb0c9275d58a"), looks := true }, kinds := [], alts := [], laidByText := true, laidKinds := [.data, .data, .data, .data, .sentinel, .sentinel, .pinned], laidTests := true, laidLooks := .later }
def JsonTellsUptoCardSaid : Prop := Claim7.holds Tryz.pinned (.plain (OpenSpec.upto jsonTellsSpec)) jsonTellsUptoCard

/-- THE SECOND FORM's CARD OF 'humpyardlaw04.JsonWords'. -/
def jsonWordsUptoCard : Claim7 := { stood := { row := jsonWordsUptoRow, standIns := [], harness := (true, "c7b4bb3b143159b74f018bbca8f9e9b352aed7ed5e7667f8350acb0c9275d58a"), looks := true }, kinds := [], alts := [], laidByText := true, laidKinds := [.data, .data, .data, .data, .sentinel, .sentinel, .pinned], laidTests := true, laidLooks := .later }
def JsonWordsUptoCardSaid : Prop := Claim7.holds Tryz.pinned (.plain (OpenSpec.upto jsonWordsSpec)) jsonWordsUptoCard

/-- THE SECOND FORM's CARD OF 'humpyardlaw04.JsonBack'. -/
def jsonBackUptoCard : Claim7 := { stood := { row := jsonBackUptoRow, standIns := [], harness := (true, "c7b4bb3b143159b74f018bbca8f9e9b352aed7ed5e7667f8350acb0c9275d58a"), looks := true }, kinds := [], alts := [], laidByText := true, laidKinds := [.data, .data, .data, .data, .sentinel, .sentinel, .pinned], laidTests := true, laidLooks := .later }
def JsonBackUptoCardSaid : Prop := Claim7.holds Tryz.pinned (.plain (OpenSpec.upto jsonBackSpec)) jsonBackUptoCard

/-- THE SECOND FORM's CARD OF 'humpyardlaw04.JsonAgain'. -/
def jsonAgainUptoCard : Claim7 := { stood := { row := jsonAgainUptoRow, standIns := [], harness := (true, "c7b4bb3b143159b74f018bbca8f9e9b352aed7ed5e7667f8350acb0c9275d58a"), looks := true }, kinds := [], alts := [], laidByText := true, laidKinds := [.data, .data, .data, .data, .sentinel, .sentinel, .pinned], laidTests := true, laidLooks := .later }
def JsonAgainUptoCardSaid : Prop := Claim7.holds Tryz.pinned (.plain (OpenSpec.upto jsonAgainSpec)) jsonAgainUptoCard

/-- THE SECOND FORM's CARD OF 'humpyardlaw04.JsonApart'. -/
def jsonApartUptoCard : Claim7 := { stood := { row := jsonApartUptoRow, standIns := [], harness := (true, "c7b4bb3b143159b74f018bbca8f9e9b352aed7ed5e7667f8350acb0c9275d58a"), looks := true }, kinds := [], alts := [], laidByText := true, laidKinds := [.data, .data, .data, .data, .sentinel, .sentinel, .pinned], laidTests := true, laidLooks := .later }
def JsonApartUptoCardSaid : Prop := Claim7.holds Tryz.pinned (.plain (OpenSpec.upto jsonApartSpec)) jsonApartUptoCard

/-- THE SECOND FORM's CARD OF 'humpyardlaw04.JsonSpread'. -/
def jsonSpreadUptoCard : Claim7 := { stood := { row := jsonSpreadUptoRow, standIns := [], harness := (true, "c7b4bb3b143159b74f018bbca8f9e9b352aed7ed5e7667f8350acb0c9275d58a"), looks := true }, kinds := [], alts := [], laidByText := true, laidKinds := [.data, .data, .data, .data, .sentinel, .sentinel, .pinned], laidTests := true, laidLooks := .later }
def JsonSpreadUptoCardSaid : Prop := Claim7.holds Tryz.pinned (.plain (OpenSpec.upto jsonSpreadSpec)) jsonSpreadUptoCard

/-- THE SECOND FORM's CARD OF 'humpyardlaw04.JsonDeep'. -/
def jsonDeepUptoCard : Claim7 := { stood := { row := jsonDeepUptoRow, standIns := [], harness := (true, "c7b4bb3b143159b74f018bbca8f9e9b352aed7ed5e7667f8350acb0c9275d58a"), looks := true }, kinds := [], alts := [], laidByText := true, laidKinds := [.data, .data, .data, .data, .sentinel, .sentinel, .pinned], laidTests := true, laidLooks := .later }
def JsonDeepUptoCardSaid : Prop := Claim7.holds Tryz.pinned (.plain (OpenSpec.upto jsonDeepSpec)) jsonDeepUptoCard

/-- THE SECOND FORM's CARD OF 'humpyardlaw04.JsonNames'. -/
def jsonNamesUptoCard : Claim7 := { stood := { row := jsonNamesUptoRow, standIns := [], harness := (true, "c7b4bb3b143159b74f018bbca8f9e9b352aed7ed5e7667f8350acb0c9275d58a"), looks := true }, kinds := [], alts := [], laidByText := true, laidKinds := [.data, .data, .data, .data, .sentinel, .sentinel, .pinned], laidTests := true, laidLooks := .later }
def JsonNamesUptoCardSaid : Prop := Claim7.holds Tryz.pinned (.plain (OpenSpec.upto jsonNamesSpec)) jsonNamesUptoCard
end Rows
end Go.Proofs.YtmlkkgfenfdndaaGreatDoor
