/-
  DERIVED. GIVEN WITH THE SEED: THE CARDS: each row of YtidfokedcnhahaaGreatDoorRows.lean that lists a variable, with what it lists TIED to the program's text (the seventh form; the later family's looks); each row that meets fmt, with fmt's text TOLD by the authors' own Lean function (tested against real Go, not proved from fmt's source: count such statements apart). THE CARD IS WHAT COUNTS. Prove the row's statement (the work); the ties are given (YtidfokedcnhahaaGreatDoorTie.lean); close each card by the builder's one call (the guide's Derived/Test/ToyasCard.lean, 'card_holds'). Laid BY PROGRAM, IN A SANDBOX (cutbox-door.mjs). By AI agents, Wed Nov 11 2026. No macro, syntax, notation, axiom, sorry.
-/
import Derived.Test.YtidfokedcnhahaaGreatDoorRows
import GoSem.ClaimSeven
namespace Go.Proofs.YtidfokedcnhahaaGreatDoor
namespace Rows

/-- THE TIED CARD OF 'humpyardlaw08.OrderTells'. -/
def orderTellsCard : Claim7 := { stood := { row := orderTellsRow, standIns := [], harness := (true, "52d89ea66f9b054a1e9b376e7589da8cb69240856ce437513011a9f7de00e165"), looks := true }, kinds := [], alts := [], laidByText := true, laidKinds := [.data, .data, .data, .data, .sentinel, .sentinel, .pinned], laidTests := true, laidLooks := .later }
def OrderTellsCardSaid : Prop := Claim7.holds Tryz.pinned (.plain (OpenSpec.ofChange orderTellsSpec)) orderTellsCard

/-- THE TIED CARD OF 'humpyardlaw08.OrderBack'. -/
def orderBackCard : Claim7 := { stood := { row := orderBackRow, standIns := [], harness := (true, "52d89ea66f9b054a1e9b376e7589da8cb69240856ce437513011a9f7de00e165"), looks := true }, kinds := [], alts := [], laidByText := true, laidKinds := [.data, .data, .data, .data, .sentinel, .sentinel, .pinned], laidTests := true, laidLooks := .later }
def OrderBackCardSaid : Prop := Claim7.holds Tryz.pinned (.plain (OpenSpec.ofChange orderBackSpec)) orderBackCard

/-- THE TIED CARD OF 'humpyardlaw08.OrderTaken'. -/
def orderTakenCard : Claim7 := { stood := { row := orderTakenRow, standIns := [], harness := (true, "52d89ea66f9b054a1e9b376e7589da8cb69240856ce437513011a9f7de00e165"), looks := true }, kinds := [], alts := [], laidByText := true, laidKinds := [.data, .data, .data, .data, .sentinel, .sentinel, .pinned], laidTests := true, laidLooks := .later }
def OrderTakenCardSaid : Prop := Claim7.holds Tryz.pinned (.plain (OpenSpec.ofChange orderTakenSpec)) orderTakenCard

/-- THE TIED CARD OF 'humpyardlaw08.OrderChanged'. -/
def orderChangedCard : Claim7 := { stood := { row := orderChangedRow, standIns := [], harness := (true, "52d89ea66f9b054a1e9b376e7589da8cb69240856ce437513011a9f7de00e165"), looks := true }, kinds := [], alts := [], laidByText := true, laidKinds := [.data, .data, .data, .data, .sentinel, .sentinel, .pinned], laidTests := true, laidLooks := .later }
def OrderChangedCardSaid : Prop := Claim7.holds Tryz.pinned (.plain (OpenSpec.ofChange orderChangedSpec)) orderChangedCard

/-- THE TIED CARD OF 'humpyardlaw08.OrderForms'. -/
def orderFormsCard : Claim7 := { stood := { row := orderFormsRow, standIns := [], harness := (true, "52d89ea66f9b054a1e9b376e7589da8cb69240856ce437513011a9f7de00e165"), looks := true }, kinds := [], alts := [], laidByText := true, laidKinds := [.data, .data, .data, .data, .sentinel, .sentinel, .pinned], laidTests := true, laidLooks := .later }
def OrderFormsCardSaid : Prop := Claim7.holds Tryz.pinned (.plain (OpenSpec.ofChange orderFormsSpec)) orderFormsCard

/-- THE TIED CARD OF 'humpyardlaw08.OrderWrong'. -/
def orderWrongCard : Claim7 := { stood := { row := orderWrongRow, standIns := [], harness := (true, "52d89ea66f9b054a1e9b376e7589da8cb69240856ce437513011a9f7de00e165"), looks := true }, kinds := [], alts := [], laidByText := true, laidKinds := [.data, .data, .data, .data, .sentinel, .sentinel, .pinned], laidTests := true, laidLooks := .later }
def OrderWrongCardSaid : Prop := Claim7.holds Tryz.pinned (.plain (OpenSpec.ofChange orderWrongSpec)) orderWrongCard

/-- THE TIED CARD OF 'humpyardlaw08.OrderApart'. -/
def orderApartCard : Claim7 := { stood := { row := orderApartRow, standIns := [], harness := (true, "52d89ea66f9b054a1e9b376e7589da8cb69240856ce437513011a9f7de00e165"), looks := true }, kinds := [], alts := [], laidByText := true, laidKinds := [.data, .data, .data, .data, .sentinel, .sentinel, .pinned], laidTests := true, laidLooks := .later }
def OrderApartCardSaid : Prop := Claim7.holds Tryz.pinned (.plain (OpenSpec.ofChange orderApartSpec)) orderApartCard

/-- THE TIED CARD OF 'humpyardlaw09.StateTells'. -/
def stateTellsCard : Claim7 := { stood := { row := stateTellsRow, standIns := [], harness := (true, "52d89ea66f9b054a1e9b376e7589da8cb69240856ce437513011a9f7de00e165"), looks := true }, kinds := [], alts := [], laidByText := true, laidKinds := [.data, .data, .data, .data, .sentinel, .sentinel, .pinned], laidTests := true, laidLooks := .later }
def StateTellsCardSaid : Prop := Claim7.holds Tryz.pinned (.plain (OpenSpec.ofChange stateTellsSpec)) stateTellsCard

/-- THE TIED CARD OF 'humpyardlaw09.StateBack'. -/
def stateBackCard : Claim7 := { stood := { row := stateBackRow, standIns := [], harness := (true, "52d89ea66f9b054a1e9b376e7589da8cb69240856ce437513011a9f7de00e165"), looks := true }, kinds := [], alts := [], laidByText := true, laidKinds := [.data, .data, .data, .data, .sentinel, .sentinel, .pinned], laidTests := true, laidLooks := .later }
def StateBackCardSaid : Prop := Claim7.holds Tryz.pinned (.plain (OpenSpec.ofChange stateBackSpec)) stateBackCard

/-- THE TIED CARD OF 'humpyardlaw09.StateTaken'. -/
def stateTakenCard : Claim7 := { stood := { row := stateTakenRow, standIns := [], harness := (true, "52d89ea66f9b054a1e9b376e7589da8cb69240856ce437513011a9f7de00e165"), looks := true }, kinds := [], alts := [], laidByText := true, laidKinds := [.data, .data, .data, .data, .sentinel, .sentinel, .pinned], laidTests := true, laidLooks := .later }
def StateTakenCardSaid : Prop := Claim7.holds Tryz.pinned (.plain (OpenSpec.ofChange stateTakenSpec)) stateTakenCard

/-- THE TIED CARD OF 'humpyardlaw09.StateChanged'. -/
def stateChangedCard : Claim7 := { stood := { row := stateChangedRow, standIns := [], harness := (true, "52d89ea66f9b054a1e9b376e7589da8cb69240856ce437513011a9f7de00e165"), looks := true }, kinds := [], alts := [], laidByText := true, laidKinds := [.data, .data, .data, .data, .sentinel, .sentinel, .pinned], laidTests := true, laidLooks := .later }
def StateChangedCardSaid : Prop := Claim7.holds Tryz.pinned (.plain (OpenSpec.ofChange stateChangedSpec)) stateChangedCard

/-- THE TIED CARD OF 'humpyardlaw09.StateNewer'. -/
def stateNewerCard : Claim7 := { stood := { row := stateNewerRow, standIns := [], harness := (true, "52d89ea66f9b054a1e9b376e7589da8cb69240856ce437513011a9f7de00e165"), looks := true }, kinds := [], alts := [], laidByText := true, laidKinds := [.data, .data, .data, .data, .sentinel, .sentinel, .pinned], laidTests := true, laidLooks := .later }
def StateNewerCardSaid : Prop := Claim7.holds Tryz.pinned (.plain (OpenSpec.ofChange stateNewerSpec)) stateNewerCard

/-- THE TIED CARD OF 'humpyardlaw09.StateForms'. -/
def stateFormsCard : Claim7 := { stood := { row := stateFormsRow, standIns := [], harness := (true, "52d89ea66f9b054a1e9b376e7589da8cb69240856ce437513011a9f7de00e165"), looks := true }, kinds := [], alts := [], laidByText := true, laidKinds := [.data, .data, .data, .data, .sentinel, .sentinel, .pinned], laidTests := true, laidLooks := .later }
def StateFormsCardSaid : Prop := Claim7.holds Tryz.pinned (.plain (OpenSpec.ofChange stateFormsSpec)) stateFormsCard

/-- THE TIED CARD OF 'humpyardlaw09.StateApart'. -/
def stateApartCard : Claim7 := { stood := { row := stateApartRow, standIns := [], harness := (true, "52d89ea66f9b054a1e9b376e7589da8cb69240856ce437513011a9f7de00e165"), looks := true }, kinds := [], alts := [], laidByText := true, laidKinds := [.data, .data, .data, .data, .sentinel, .sentinel, .pinned], laidTests := true, laidLooks := .later }
def StateApartCardSaid : Prop := Claim7.holds Tryz.pinned (.plain (OpenSpec.ofChange stateApartSpec)) stateApartCard

/-- THE SECOND FORM's CARD OF 'humpyardlaw08.OrderTells'. -/
def orderTellsUptoCard : Claim7 := { stood := { row := orderTellsUptoRow, standIns := [], harness := (true, "52d89ea66f9b054a1e9b376e7589da8cb69240856ce437513011a9f7de00e165"), looks := true }, kinds := [], alts := [], laidByText := true, laidKinds := [.data, .data, .data, .data, .sentinel, .sentinel, .pinned], laidTests := true, laidLooks := .later }
def OrderTellsUptoCardSaid : Prop := Claim7.holds Tryz.pinned (.plain (OpenSpec.upto orderTellsSpec)) orderTellsUptoCard

/-- THE SECOND FORM's CARD OF 'humpyardlaw08.OrderBack'. -/
def orderBackUptoCard : Claim7 := { stood := { row := orderBackUptoRow, standIns := [], harness := (true, "52d89ea66f9b054a1e9b376e7589da8cb69240856ce437513011a9f7de00e165"), looks := true }, kinds := [], alts := [], laidByText := true, laidKinds := [.data, .data, .data, .data, .sentinel, .sentinel, .pinned], laidTests := true, laidLooks := .later }
def OrderBackUptoCardSaid : Prop := Claim7.holds Tryz.pinned (.plain (OpenSpec.upto orderBackSpec)) orderBackUptoCard

/-- THE SECOND FORM's CARD OF 'humpyardlaw08.OrderTaken'. -/
def orderTakenUptoCard : Claim7 := { stood := { row := orderTakenUptoRow, standIns := [], harness := (true, "52d89ea66f9b054a1e9b376e7589da8cb69240856ce437513011a9f7de00e165"), looks := true }, kinds := [], alts := [], laidByText := true, laidKinds := [.data, .data, .data, .data, .sentinel, .sentinel, .pinned], laidTests := true, laidLooks := .later }
def OrderTakenUptoCardSaid : Prop := Claim7.holds Tryz.pinned (.plain (OpenSpec.upto orderTakenSpec)) orderTakenUptoCard

/-- THE SECOND FORM's CARD OF 'humpyardlaw08.OrderChanged'. -/
def orderChangedUptoCard : Claim7 := { stood := { row := orderChangedUptoRow, standIns := [], harness := (true, "52d89ea66f9b054a1e9b376e7589da8cb69240856ce437513011a9f7de00e165"), looks := true }, kinds := [], alts := [], laidByText := true, laidKinds := [.data, .data, .data, .data, .sentinel, .sentinel, .pinned], laidTests := true, laidLooks := .later }
def OrderChangedUptoCardSaid : Prop := Claim7.holds Tryz.pinned (.plain (OpenSpec.upto orderChangedSpec)) orderChangedUptoCard

/-- THE SECOND FORM's CARD OF 'humpyardlaw08.OrderForms'. -/
def orderFormsUptoCard : Claim7 := { stood := { row := orderFormsUptoRow, standIns := [], harness := (true, "52d89ea66f9b054a1e9b376e7589da8cb69240856ce437513011a9f7de00e165"), looks := true }, kinds := [], alts := [], laidByText := true, laidKinds := [.data, .data, .data, .data, .sentinel, .sentinel, .pinned], laidTests := true, laidLooks := .later }
def OrderFormsUptoCardSaid : Prop := Claim7.holds Tryz.pinned (.plain (OpenSpec.upto orderFormsSpec)) orderFormsUptoCard

/-- THE SECOND FORM's CARD OF 'humpyardlaw08.OrderWrong'. -/
def orderWrongUptoCard : Claim7 := { stood := { row := orderWrongUptoRow, standIns := [], harness := (true, "52d89ea66f9b054a1e9b376e7589da8cb69240856ce437513011a9f7de00e165"), looks := true }, kinds := [], alts := [], laidByText := true, laidKinds := [.data, .data, .data, .data, .sentinel, .sentinel, .pinned], laidTests := true, laidLooks := .later }
def OrderWrongUptoCardSaid : Prop := Claim7.holds Tryz.pinned (.plain (OpenSpec.upto orderWrongSpec)) orderWrongUptoCard

/-- THE SECOND FORM's CARD OF 'humpyardlaw08.OrderApart'. -/
def orderApartUptoCard : Claim7 := { stood := { row := orderApartUptoRow, standIns := [], harness := (true, "52d89ea66f9b054a1e9b376e7589da8cb69240856ce437513011a9f7de00e165"), looks := true }, kinds := [], alts := [], laidByText := true, laidKinds := [.data, .data, .data, .data, .sentinel, .sentinel, .pinned], laidTests := true, laidLooks := .later }
def OrderApartUptoCardSaid : Prop := Claim7.holds Tryz.pinned (.plain (OpenSpec.upto orderApartSpec)) orderApartUptoCard

/-- THE SECOND FORM's CARD OF 'humpyardlaw09.StateTells'. -/
def stateTellsUptoCard : Claim7 := { stood := { row := stateTellsUptoRow, standIns := [], harness := (true, "52d89ea66f9b054a1e9b376e7589da8cb69240856ce437513011a9f7de00e165"), looks := true }, kinds := [], alts := [], laidByText := true, laidKinds := [.data, .data, .data, .data, .sentinel, .sentinel, .pinned], laidTests := true, laidLooks := .later }
def StateTellsUptoCardSaid : Prop := Claim7.holds Tryz.pinned (.plain (OpenSpec.upto stateTellsSpec)) stateTellsUptoCard

/-- THE SECOND FORM's CARD OF 'humpyardlaw09.StateBack'. -/
def stateBackUptoCard : Claim7 := { stood := { row := stateBackUptoRow, standIns := [], harness := (true, "52d89ea66f9b054a1e9b376e7589da8cb69240856ce437513011a9f7de00e165"), looks := true }, kinds := [], alts := [], laidByText := true, laidKinds := [.data, .data, .data, .data, .sentinel, .sentinel, .pinned], laidTests := true, laidLooks := .later }
def StateBackUptoCardSaid : Prop := Claim7.holds Tryz.pinned (.plain (OpenSpec.upto stateBackSpec)) stateBackUptoCard

/-- THE SECOND FORM's CARD OF 'humpyardlaw09.StateTaken'. -/
def stateTakenUptoCard : Claim7 := { stood := { row := stateTakenUptoRow, standIns := [], harness := (true, "52d89ea66f9b054a1e9b376e7589da8cb69240856ce437513011a9f7de00e165"), looks := true }, kinds := [], alts := [], laidByText := true, laidKinds := [.data, .data, .data, .data, .sentinel, .sentinel, .pinned], laidTests := true, laidLooks := .later }
def StateTakenUptoCardSaid : Prop := Claim7.holds Tryz.pinned (.plain (OpenSpec.upto stateTakenSpec)) stateTakenUptoCard

/-- THE SECOND FORM's CARD OF 'humpyardlaw09.StateChanged'. -/
def stateChangedUptoCard : Claim7 := { stood := { row := stateChangedUptoRow, standIns := [], harness := (true, "52d89ea66f9b054a1e9b376e7589da8cb69240856ce437513011a9f7de00e165"), looks := true }, kinds := [], alts := [], laidByText := true, laidKinds := [.data, .data, .data, .data, .sentinel, .sentinel, .pinned], laidTests := true, laidLooks := .later }
def StateChangedUptoCardSaid : Prop := Claim7.holds Tryz.pinned (.plain (OpenSpec.upto stateChangedSpec)) stateChangedUptoCard

/-- THE SECOND FORM's CARD OF 'humpyardlaw09.StateNewer'. -/
def stateNewerUptoCard : Claim7 := { stood := { row := stateNewerUptoRow, standIns := [], harness := (true, "52d89ea66f9b054a1e9b376e7589da8cb69240856ce437513011a9f7de00e165"), looks := true }, kinds := [], alts := [], laidByText := true, laidKinds := [.data, .data, .data, .data, .sentinel, .sentinel, .pinned], laidTests := true, laidLooks := .later }
def StateNewerUptoCardSaid : Prop := Claim7.holds Tryz.pinned (.plain (OpenSpec.upto stateNewerSpec)) stateNewerUptoCard

/-- THE SECOND FORM's CARD OF 'humpyardlaw09.StateForms'. -/
def stateFormsUptoCard : Claim7 := { stood := { row := stateFormsUptoRow, standIns := [], harness := (true, "52d89ea66f9b054a1e9b376e7589da8cb69240856ce437513011a9f7de00e165"), looks := true }, kinds := [], alts := [], laidByText := true, laidKinds := [.data, .data, .data, .data, .sentinel, .sentinel, .pinned], laidTests := true, laidLooks := .later }
def StateFormsUptoCardSaid : Prop := Claim7.holds Tryz.pinned (.plain (OpenSpec.upto stateFormsSpec)) stateFormsUptoCard

/-- THE SECOND FORM's CARD OF 'humpyardlaw09.StateApart'. -/
def stateApartUptoCard : Claim7 := { stood := { row := stateApartUptoRow, standIns := [], harness := (true, "52d89ea66f9b054a1e9b376e7589da8cb69240856ce437513011a9f7de00e165"), looks := true }, kinds := [], alts := [], laidByText := true, laidKinds := [.data, .data, .data, .data, .sentinel, .sentinel, .pinned], laidTests := true, laidLooks := .later }
def StateApartUptoCardSaid : Prop := Claim7.holds Tryz.pinned (.plain (OpenSpec.upto stateApartSpec)) stateApartUptoCard
end Rows
end Go.Proofs.YtidfokedcnhahaaGreatDoor
