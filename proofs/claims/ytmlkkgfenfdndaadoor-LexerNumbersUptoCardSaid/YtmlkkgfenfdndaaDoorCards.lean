/-
  DERIVED. GIVEN WITH THE SEED: THE CARDS: each row of YtmlkkgfenfdndaaDoorRows.lean that lists a variable, with what it lists TIED to the program's text (the seventh form; the later family's looks); each row that meets fmt, with fmt's text TOLD by the authors' own Lean function (tested against real Go, not proved from fmt's source: count such statements apart). THE CARD IS WHAT COUNTS. Prove the row's statement (the work); the ties are given (YtmlkkgfenfdndaaDoorTie.lean); close each card by the builder's one call (the guide's Derived/Test/ToyasCard.lean, 'card_holds'). Laid BY PROGRAM, IN A SANDBOX (cutbox-door.mjs). By AI agents, Wed Nov 11 2026. No macro, syntax, notation, axiom, sorry.
-/
import Derived.Test.YtmlkkgfenfdndaaDoorRows
import GoSem.ClaimSeven
namespace Go.Proofs.YtmlkkgfenfdndaaDoor
namespace Rows

/-- THE TIED CARD OF 'humpyardlaw03.LexerTells'. -/
def lexerTellsCard : Claim7 := { stood := { row := lexerTellsRow, standIns := [], harness := (true, "ca7a3cea0c237c0bee4549d84a81768c5c1f5b3a84c655541dfcb69c3dacc25b"), looks := true }, kinds := [], alts := [], laidByText := true, laidKinds := [.data, .data, .data, .data, .sentinel, .sentinel, .pinned], laidTests := true, laidLooks := .later }
def LexerTellsCardSaid : Prop := Claim7.holds Tryd.pinned (.plain (OpenSpec.ofChange lexerTellsSpec)) lexerTellsCard

/-- THE TIED CARD OF 'humpyardlaw03.LexerNumbers'. -/
def lexerNumbersCard : Claim7 := { stood := { row := lexerNumbersRow, standIns := [], harness := (true, "ca7a3cea0c237c0bee4549d84a81768c5c1f5b3a84c655541dfcb69c3dacc25b"), looks := true }, kinds := [], alts := [], laidByText := true, laidKinds := [.data, .data, .data, .data, .sentinel, .sentinel, .pinned], laidTests := true, laidLooks := .later }
def LexerNumbersCardSaid : Prop := Claim7.holds Tryd.pinned (.plain (OpenSpec.ofChange lexerNumbersSpec)) lexerNumbersCard

/-- THE SECOND FORM's CARD OF 'humpyardlaw03.LexerTells'. -/
def lexerTellsUptoCard : Claim7 := { stood := { row := lexerTellsUptoRow, standIns := [], harness := (true, "ca7a3cea0c237c0bee4549d84a81768c5c1f5b3a84c655541dfcb69c3dacc25b"), looks := true }, kinds := [], alts := [], laidByText := true, laidKinds := [.data, .data, .data, .data, .sentinel, .sentinel, .pinned], laidTests := true, laidLooks := .later }
def LexerTellsUptoCardSaid : Prop := Claim7.holds Tryd.pinned (.plain (OpenSpec.upto lexerTellsSpec)) lexerTellsUptoCard

/-- THE SECOND FORM's CARD OF 'humpyardlaw03.LexerNumbers'. -/
def lexerNumbersUptoCard : Claim7 := { stood := { row := lexerNumbersUptoRow, standIns := [], harness := (true, "ca7a3cea0c237c0bee4549d84a81768c5c1f5b3a84c655541dfcb69c3dacc25b"), looks := true }, kinds := [], alts := [], laidByText := true, laidKinds := [.data, .data, .data, .data, .sentinel, .sentinel, .pinned], laidTests := true, laidLooks := .later }
def LexerNumbersUptoCardSaid : Prop := Claim7.holds Tryd.pinned (.plain (OpenSpec.upto lexerNumbersSpec)) lexerNumbersUptoCard
end Rows
end Go.Proofs.YtmlkkgfenfdndaaDoor
