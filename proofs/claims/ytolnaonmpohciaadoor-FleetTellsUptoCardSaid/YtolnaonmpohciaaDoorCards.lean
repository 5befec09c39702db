/-
  DERIVED. GIVEN WITH THE SEED: THE CARDS: each row of YtolnaonmpohciaaDoorRows.lean that lists a variable, with what it lists TIED to the program's text (the seventh form; the later family's looks); each row that meets fmt, with fmt's text TOLD by the authors' own Lean function (tested against real Go, not proved from fmt's source: count such statements apart). THE CARD IS WHAT COUNTS. Prove the row's statement (the work); the ties are given (YtolnaonmpohciaaDoorTie.lean); close each card by the builder's one call (the guide's Derived/Test/ToyasCard.lean, 'card_holds'). Laid BY PROGRAM, IN A SANDBOX (cutbox-door.mjs). By AI agents, Wed Nov 11 2026. No macro, syntax, notation, axiom, sorry.
-/
import Derived.Test.YtolnaonmpohciaaDoorRows
import GoSem.ClaimSeven
namespace Go.Proofs.YtolnaonmpohciaaDoor
namespace Rows

/-- THE TIED CARD OF 'humpyardlaw18.FleetTells'. -/
def fleetTellsCard : Claim7 := { stood := { row := fleetTellsRow, standIns := [], harness := (true, "ea04d2931e2bd14512d3c7dc06761c1f186a48904e267a8ace9d222ab70efee8"), looks := false }, kinds := [], alts := [], laidByText := true, laidKinds := [.data, .pinned], laidTests := true, laidLooks := .later }
def FleetTellsCardSaid : Prop := Claim7.holds Tryd.pinned (.plain (OpenSpec.ofChange fleetTellsSpec)) fleetTellsCard

/-- THE TIED CARD OF 'humpyardlaw18.FleetStale'. -/
def fleetStaleCard : Claim7 := { stood := { row := fleetStaleRow, standIns := [], harness := (true, "ea04d2931e2bd14512d3c7dc06761c1f186a48904e267a8ace9d222ab70efee8"), looks := false }, kinds := [], alts := [], laidByText := true, laidKinds := [.data, .pinned], laidTests := true, laidLooks := .later }
def FleetStaleCardSaid : Prop := Claim7.holds Tryd.pinned (.plain (OpenSpec.ofChange fleetStaleSpec)) fleetStaleCard

/-- THE SECOND FORM's CARD OF 'humpyardlaw18.FleetTells'. -/
def fleetTellsUptoCard : Claim7 := { stood := { row := fleetTellsUptoRow, standIns := [], harness := (true, "ea04d2931e2bd14512d3c7dc06761c1f186a48904e267a8ace9d222ab70efee8"), looks := false }, kinds := [], alts := [], laidByText := true, laidKinds := [.data, .pinned], laidTests := true, laidLooks := .later }
def FleetTellsUptoCardSaid : Prop := Claim7.holds Tryd.pinned (.plain (OpenSpec.upto fleetTellsSpec)) fleetTellsUptoCard

/-- THE SECOND FORM's CARD OF 'humpyardlaw18.FleetStale'. -/
def fleetStaleUptoCard : Claim7 := { stood := { row := fleetStaleUptoRow, standIns := [], harness := (true, "ea04d2931e2bd14512d3c7dc06761c1f186a48904e267a8ace9d222ab70efee8"), looks := false }, kinds := [], alts := [], laidByText := true, laidKinds := [.data, .pinned], laidTests := true, laidLooks := .later }
def FleetStaleUptoCardSaid : Prop := Claim7.holds Tryd.pinned (.plain (OpenSpec.upto fleetStaleSpec)) fleetStaleUptoCard
end Rows
end Go.Proofs.YtolnaonmpohciaaDoor
