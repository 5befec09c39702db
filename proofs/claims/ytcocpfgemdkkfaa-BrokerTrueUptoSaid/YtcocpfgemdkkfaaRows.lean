/-
  NARROWER THAN 'FOR EVERY INPUT', by the rows' own cells (each row's printed sentence says how): FieldOrder: loops · FieldMakes: loops · FieldChecks: loops · FieldTells: loops.
  DERIVED. THE GIVEN ROWS OF THIS SEAT. 10 by the template 'for every input the law returns true; each argument reads behind the call as it read before'; 0 by the template 'total and deterministic' (their statements: YtcocpfgemdkkfaaTotals.lean).
  GIVEN WITH THE SEED: the statements are not yours to turn. If you find one false, say at which input.
  Laid BY PROGRAM, IN A SANDBOX (cutbox-rows.mjs): the forced cells as the released guide's own fill.sh prints them over the translation 31fe549be57c89f5… (all of the seat's roots in one cut). By AI agents, Wed Nov 11 2026. No macro, syntax, notation, axiom, sorry.
-/
import Derived.Test.YtcocpfgemdkkfaaChecked
import GoSem.Claim
import GoSem.ClaimJoined
import GoSem.ClaimMapViews
import Derived.JoinedTies
import Derived.KernelRfl
namespace Go.Proofs.Ytcocpfgemdkkfaa
/- THE CELL 'sum', in the pinned program and in every row, IS THE sha256 OF THE DUMP (.gsa) THAT YtcocpfgemdkkfaaProg.lean LOADS. Nothing in Lean hashes anything: it is a label: what it is worth is what the hold of that sum in a sandbox is worth. -/
noncomputable def Try.pinned : Pinned := { name := "ytcocpfgemdkkfaa", sum := "31fe549be57c89f5e20cf14064c6a22e711e44c7d0f14e032578b50fa8aa9488", checked := Try.checked }
namespace Rows
def none {H : Type} : Left H := { results := [], args := [] }

/-- 'humpyardlaw17.BrokerQueue': WHATEVER THE INPUT: true; the input reads as it did. -/
def brokerQueueSpec : ChangeSpec := { name := "brokerQueue", fn := fun _ => fun
  | [d1, d2] => { results := [.lit (.bool true)], args := [d1, d2] }
  | _ => none }
def brokerQueueRow : OpenClaim := { program := "ytcocpfgemdkkfaa", sum := "31fe549be57c89f5e20cf14064c6a22e711e44c7d0f14e032578b50fa8aa9488", func := "humpyard/humpyardlaw17.BrokerQueue", spec := "brokerQueue", inPlace := ["sync/atomic.StoreInt64", "sync/atomic.AddInt64"], apart := false }
def BrokerQueueSaid : Prop := brokerQueueRow.holds Try.pinned (OpenSpec.ofChange brokerQueueSpec)

/-- ITS FALSE NEIGHBOUR: 'it returns false'. Refute it at one input. -/
def brokerQueueWrong : ChangeSpec := { name := "brokerQueue", fn := fun _ => fun
  | [d1, d2] => { results := [.lit (.bool false)], args := [d1, d2] }
  | _ => none }
def BrokerQueueWrongFalsely : Prop := brokerQueueRow.holds Try.pinned (OpenSpec.ofChange brokerQueueWrong)

/-- 'humpyardlaw17.BrokerFull': WHATEVER THE INPUT: true; the input reads as it did. -/
def brokerFullSpec : ChangeSpec := { name := "brokerFull", fn := fun _ => fun
  | [d1, d2, d3] => { results := [.lit (.bool true)], args := [d1, d2, d3] }
  | _ => none }
def brokerFullRow : OpenClaim := { program := "ytcocpfgemdkkfaa", sum := "31fe549be57c89f5e20cf14064c6a22e711e44c7d0f14e032578b50fa8aa9488", func := "humpyard/humpyardlaw17.BrokerFull", spec := "brokerFull", inPlace := ["sync/atomic.StoreInt64", "sync/atomic.AddInt64"], apart := false }
def BrokerFullSaid : Prop := brokerFullRow.holds Try.pinned (OpenSpec.ofChange brokerFullSpec)

/-- ITS FALSE NEIGHBOUR: 'it returns false'. Refute it at one input. -/
def brokerFullWrong : ChangeSpec := { name := "brokerFull", fn := fun _ => fun
  | [d1, d2, d3] => { results := [.lit (.bool false)], args := [d1, d2, d3] }
  | _ => none }
def BrokerFullWrongFalsely : Prop := brokerFullRow.holds Try.pinned (OpenSpec.ofChange brokerFullWrong)

/-- 'humpyardlaw05.FieldOrder': WHATEVER THE INPUT: true; the input reads as it did. -/
def fieldOrderSpec : ChangeSpec := { name := "fieldOrder", fn := fun _ => fun
  | [d1, d2, d3, d4] => { results := [.lit (.bool true)], args := [d1, d2, d3, d4] }
  | _ => none }
def fieldOrderRow : OpenClaim := { program := "ytcocpfgemdkkfaa", sum := "31fe549be57c89f5e20cf14064c6a22e711e44c7d0f14e032578b50fa8aa9488", func := "humpyard/humpyardlaw05.FieldOrder", spec := "fieldOrder", unfollowed := true, recurses := true, loops := true, apart := false }
def FieldOrderSaid : Prop := fieldOrderRow.holds Try.pinned (OpenSpec.ofChange fieldOrderSpec)

/-- ITS FALSE NEIGHBOUR: 'it returns false'. Refute it at one input. -/
def fieldOrderWrong : ChangeSpec := { name := "fieldOrder", fn := fun _ => fun
  | [d1, d2, d3, d4] => { results := [.lit (.bool false)], args := [d1, d2, d3, d4] }
  | _ => none }
def FieldOrderWrongFalsely : Prop := fieldOrderRow.holds Try.pinned (OpenSpec.ofChange fieldOrderWrong)

/-- 'humpyardlaw05.FieldMissing': WHATEVER THE INPUT: true; the input reads as it did. -/
def fieldMissingSpec : ChangeSpec := { name := "fieldMissing", fn := fun _ => fun
  | [d] => { results := [.lit (.bool true)], args := [d] }
  | _ => none }
def fieldMissingRow : OpenClaim := { program := "ytcocpfgemdkkfaa", sum := "31fe549be57c89f5e20cf14064c6a22e711e44c7d0f14e032578b50fa8aa9488", func := "humpyard/humpyardlaw05.FieldMissing", spec := "fieldMissing", unfollowed := true, recurses := true, apart := false }
def FieldMissingSaid : Prop := fieldMissingRow.holds Try.pinned (OpenSpec.ofChange fieldMissingSpec)

/-- ITS FALSE NEIGHBOUR: 'it returns false'. Refute it at one input. -/
def fieldMissingWrong : ChangeSpec := { name := "fieldMissing", fn := fun _ => fun
  | [d] => { results := [.lit (.bool false)], args := [d] }
  | _ => none }
def FieldMissingWrongFalsely : Prop := fieldMissingRow.holds Try.pinned (OpenSpec.ofChange fieldMissingWrong)

/-- 'humpyardlaw05.FieldMakes': WHATEVER THE INPUT: true; the input reads as it did. -/
def fieldMakesSpec : ChangeSpec := { name := "fieldMakes", fn := fun _ => fun
  | [d1, d2, d3] => { results := [.lit (.bool true)], args := [d1, d2, d3] }
  | _ => none }
def fieldMakesRow : OpenClaim := { program := "ytcocpfgemdkkfaa", sum := "31fe549be57c89f5e20cf14064c6a22e711e44c7d0f14e032578b50fa8aa9488", func := "humpyard/humpyardlaw05.FieldMakes", spec := "fieldMakes", unfollowed := true, recurses := true, loops := true, apart := false }
def FieldMakesSaid : Prop := fieldMakesRow.holds Try.pinned (OpenSpec.ofChange fieldMakesSpec)

/-- ITS FALSE NEIGHBOUR: 'it returns false'. Refute it at one input. -/
def fieldMakesWrong : ChangeSpec := { name := "fieldMakes", fn := fun _ => fun
  | [d1, d2, d3] => { results := [.lit (.bool false)], args := [d1, d2, d3] }
  | _ => none }
def FieldMakesWrongFalsely : Prop := fieldMakesRow.holds Try.pinned (OpenSpec.ofChange fieldMakesWrong)

/-- 'humpyardlaw05.FieldChecks': WHATEVER THE INPUT: true; the input reads as it did. -/
def fieldChecksSpec : ChangeSpec := { name := "fieldChecks", fn := fun _ => fun
  | [d1, d2] => { results := [.lit (.bool true)], args := [d1, d2] }
  | _ => none }
def fieldChecksRow : OpenClaim := { program := "ytcocpfgemdkkfaa", sum := "31fe549be57c89f5e20cf14064c6a22e711e44c7d0f14e032578b50fa8aa9488", func := "humpyard/humpyardlaw05.FieldChecks", spec := "fieldChecks", unfollowed := true, recurses := true, loops := true, apart := false }
def FieldChecksSaid : Prop := fieldChecksRow.holds Try.pinned (OpenSpec.ofChange fieldChecksSpec)

/-- ITS FALSE NEIGHBOUR: 'it returns false'. Refute it at one input. -/
def fieldChecksWrong : ChangeSpec := { name := "fieldChecks", fn := fun _ => fun
  | [d1, d2] => { results := [.lit (.bool false)], args := [d1, d2] }
  | _ => none }
def FieldChecksWrongFalsely : Prop := fieldChecksRow.holds Try.pinned (OpenSpec.ofChange fieldChecksWrong)

/-- 'humpyardlaw05.FieldTells': WHATEVER THE INPUT: true; the input reads as it did. -/
def fieldTellsSpec : ChangeSpec := { name := "fieldTells", fn := fun _ => fun
  | [d1, d2, d3, d4, d5, d6] => { results := [.lit (.bool true)], args := [d1, d2, d3, d4, d5, d6] }
  | _ => none }
def fieldTellsRow : OpenClaim := { program := "ytcocpfgemdkkfaa", sum := "31fe549be57c89f5e20cf14064c6a22e711e44c7d0f14e032578b50fa8aa9488", func := "humpyard/humpyardlaw05.FieldTells", spec := "fieldTells", unfollowed := true, recurses := true, loops := true, apart := false }
def FieldTellsSaid : Prop := fieldTellsRow.holds Try.pinned (OpenSpec.ofChange fieldTellsSpec)

/-- ITS FALSE NEIGHBOUR: 'it returns false'. Refute it at one input. -/
def fieldTellsWrong : ChangeSpec := { name := "fieldTells", fn := fun _ => fun
  | [d1, d2, d3, d4, d5, d6] => { results := [.lit (.bool false)], args := [d1, d2, d3, d4, d5, d6] }
  | _ => none }
def FieldTellsWrongFalsely : Prop := fieldTellsRow.holds Try.pinned (OpenSpec.ofChange fieldTellsWrong)

/-- 'humpyardlaw17.BrokerMoves': WHATEVER THE INPUT: true; the input reads as it did. -/
def brokerMovesSpec : ChangeSpec := { name := "brokerMoves", fn := fun _ => fun
  | [d1, d2, d3] => { results := [.lit (.bool true)], args := [d1, d2, d3] }
  | _ => none }
def brokerMovesRow : OpenClaim := { program := "ytcocpfgemdkkfaa", sum := "31fe549be57c89f5e20cf14064c6a22e711e44c7d0f14e032578b50fa8aa9488", func := "humpyard/humpyardlaw17.BrokerMoves", spec := "brokerMoves", inPlace := ["sync/atomic.StoreInt64", "sync/atomic.AddInt64", "slices.overlaps[humpyard/api.Mail]"], apart := false }
def BrokerMovesSaid : Prop := brokerMovesRow.holds Try.pinned (OpenSpec.ofChange brokerMovesSpec)

/-- ITS FALSE NEIGHBOUR: 'it returns false'. Refute it at one input. -/
def brokerMovesWrong : ChangeSpec := { name := "brokerMoves", fn := fun _ => fun
  | [d1, d2, d3] => { results := [.lit (.bool false)], args := [d1, d2, d3] }
  | _ => none }
def BrokerMovesWrongFalsely : Prop := brokerMovesRow.holds Try.pinned (OpenSpec.ofChange brokerMovesWrong)

/-- 'humpyardlaw17.BrokerPlays': WHATEVER THE INPUT: true; the input reads as it did. -/
def brokerPlaysSpec : ChangeSpec := { name := "brokerPlays", fn := fun _ => fun
  | [d1, d2] => { results := [.lit (.bool true)], args := [d1, d2] }
  | _ => none }
def brokerPlaysRow : OpenClaim := { program := "ytcocpfgemdkkfaa", sum := "31fe549be57c89f5e20cf14064c6a22e711e44c7d0f14e032578b50fa8aa9488", func := "humpyard/humpyardlaw17.BrokerPlays", spec := "brokerPlays", inPlace := ["sync/atomic.StoreInt64", "sync/atomic.AddInt64", "slices.overlaps[humpyard/api.Mail]"], apart := false }
def BrokerPlaysSaid : Prop := brokerPlaysRow.holds Try.pinned (OpenSpec.ofChange brokerPlaysSpec)

/-- ITS FALSE NEIGHBOUR: 'it returns false'. Refute it at one input. -/
def brokerPlaysWrong : ChangeSpec := { name := "brokerPlays", fn := fun _ => fun
  | [d1, d2] => { results := [.lit (.bool false)], args := [d1, d2] }
  | _ => none }
def BrokerPlaysWrongFalsely : Prop := brokerPlaysRow.holds Try.pinned (OpenSpec.ofChange brokerPlaysWrong)

/-- 'humpyardlaw17.BrokerTrue': WHATEVER THE INPUT: true; the input reads as it did. -/
def brokerTrueSpec : ChangeSpec := { name := "brokerTrue", fn := fun _ => fun
  | [d] => { results := [.lit (.bool true)], args := [d] }
  | _ => none }
def brokerTrueRow : OpenClaim := { program := "ytcocpfgemdkkfaa", sum := "31fe549be57c89f5e20cf14064c6a22e711e44c7d0f14e032578b50fa8aa9488", func := "humpyard/humpyardlaw17.BrokerTrue", spec := "brokerTrue", inPlace := ["sync/atomic.StoreInt64", "sync/atomic.AddInt64", "slices.overlaps[humpyard/api.Mail]"], apart := false }
def BrokerTrueSaid : Prop := brokerTrueRow.holds Try.pinned (OpenSpec.ofChange brokerTrueSpec)

/-- ITS FALSE NEIGHBOUR: 'it returns false'. Refute it at one input. -/
def brokerTrueWrong : ChangeSpec := { name := "brokerTrue", fn := fun _ => fun
  | [d] => { results := [.lit (.bool false)], args := [d] }
  | _ => none }
def BrokerTrueWrongFalsely : Prop := brokerTrueRow.holds Try.pinned (OpenSpec.ofChange brokerTrueWrong)

/- THE SECOND FORM. 'bulk': how many values and letters a reading holds, each counted each time it is reached (what is shared counts as often as it is met; a slice's spare places count too). A statement '..UptoSaid' is the law's where the arguments, and the package variables that the reading takes, are together of bulk at most 1048576: NARROWER than '..Said'. Prove '..Said' where nothing that the law and all that it calls make is longer than what came in: it says more and counts as full. Else prove '..UptoSaid'. A law counts once. -/
mutual
def uptoBulk {H : Type} : DataW H → Nat
  | .lit (.string bytes) => bytes.length + 1
  | .lit _ => 1
  | .nil => 1
  | .ptr d => uptoBulk d + 1
  | .slice elems spare => uptoBulkAll elems + uptoBulkAll spare + 1
  | .agg parts => uptoBulkAll parts + 1
  | .iface _ d => uptoBulk d + 1
  | .map entries => uptoBulkEntries entries + 1
  | .held _ => 1
def uptoBulkAll {H : Type} : List (DataW H) → Nat
  | [] => 0
  | d :: r => uptoBulk d + uptoBulkAll r
def uptoBulkEntries {H : Type} : List (Lit × DataW H) → Nat
  | [] => 0
  | x :: r => uptoBulkEntry x + uptoBulkEntries r
def uptoBulkEntry {H : Type} : Lit × DataW H → Nat
  | (.string bytes, d) => bytes.length + uptoBulk d + 1
  | (_, d) => uptoBulk d + 1
 end
def uptoSmall : (H : Type) → List (DataW H) → Bool := fun _ ds => decide (uptoBulkAll ds ≤ 1048576)
def OpenSpec.upto (s : _root_.Go.ChangeSpec) : _root_.Go.OpenSpec := { _root_.Go.OpenSpec.ofChange s with cond := some uptoSmall }

/-- 'humpyardlaw17.BrokerQueue', WHERE WHAT IT READS IS OF BULK AT MOST 1048576: true; the input reads as it did. -/
def brokerQueueUptoRow : OpenClaim := { program := "ytcocpfgemdkkfaa", sum := "31fe549be57c89f5e20cf14064c6a22e711e44c7d0f14e032578b50fa8aa9488", func := "humpyard/humpyardlaw17.BrokerQueue", spec := "brokerQueue", inPlace := ["sync/atomic.StoreInt64", "sync/atomic.AddInt64"], apart := false, narrowed := true }
def BrokerQueueUptoSaid : Prop := brokerQueueUptoRow.holds Try.pinned (OpenSpec.upto brokerQueueSpec)

/-- 'humpyardlaw17.BrokerFull', WHERE WHAT IT READS IS OF BULK AT MOST 1048576: true; the input reads as it did. -/
def brokerFullUptoRow : OpenClaim := { program := "ytcocpfgemdkkfaa", sum := "31fe549be57c89f5e20cf14064c6a22e711e44c7d0f14e032578b50fa8aa9488", func := "humpyard/humpyardlaw17.BrokerFull", spec := "brokerFull", inPlace := ["sync/atomic.StoreInt64", "sync/atomic.AddInt64"], apart := false, narrowed := true }
def BrokerFullUptoSaid : Prop := brokerFullUptoRow.holds Try.pinned (OpenSpec.upto brokerFullSpec)

/-- 'humpyardlaw05.FieldOrder', WHERE WHAT IT READS IS OF BULK AT MOST 1048576: true; the input reads as it did. -/
def fieldOrderUptoRow : OpenClaim := { program := "ytcocpfgemdkkfaa", sum := "31fe549be57c89f5e20cf14064c6a22e711e44c7d0f14e032578b50fa8aa9488", func := "humpyard/humpyardlaw05.FieldOrder", spec := "fieldOrder", unfollowed := true, recurses := true, loops := true, apart := false, narrowed := true }
def FieldOrderUptoSaid : Prop := fieldOrderUptoRow.holds Try.pinned (OpenSpec.upto fieldOrderSpec)

/-- 'humpyardlaw05.FieldMissing', WHERE WHAT IT READS IS OF BULK AT MOST 1048576: true; the input reads as it did. -/
def fieldMissingUptoRow : OpenClaim := { program := "ytcocpfgemdkkfaa", sum := "31fe549be57c89f5e20cf14064c6a22e711e44c7d0f14e032578b50fa8aa9488", func := "humpyard/humpyardlaw05.FieldMissing", spec := "fieldMissing", unfollowed := true, recurses := true, apart := false, narrowed := true }
def FieldMissingUptoSaid : Prop := fieldMissingUptoRow.holds Try.pinned (OpenSpec.upto fieldMissingSpec)

/-- 'humpyardlaw05.FieldMakes', WHERE WHAT IT READS IS OF BULK AT MOST 1048576: true; the input reads as it did. -/
def fieldMakesUptoRow : OpenClaim := { program := "ytcocpfgemdkkfaa", sum := "31fe549be57c89f5e20cf14064c6a22e711e44c7d0f14e032578b50fa8aa9488", func := "humpyard/humpyardlaw05.FieldMakes", spec := "fieldMakes", unfollowed := true, recurses := true, loops := true, apart := false, narrowed := true }
def FieldMakesUptoSaid : Prop := fieldMakesUptoRow.holds Try.pinned (OpenSpec.upto fieldMakesSpec)

/-- 'humpyardlaw05.FieldChecks', WHERE WHAT IT READS IS OF BULK AT MOST 1048576: true; the input reads as it did. -/
def fieldChecksUptoRow : OpenClaim := { program := "ytcocpfgemdkkfaa", sum := "31fe549be57c89f5e20cf14064c6a22e711e44c7d0f14e032578b50fa8aa9488", func := "humpyard/humpyardlaw05.FieldChecks", spec := "fieldChecks", unfollowed := true, recurses := true, loops := true, apart := false, narrowed := true }
def FieldChecksUptoSaid : Prop := fieldChecksUptoRow.holds Try.pinned (OpenSpec.upto fieldChecksSpec)

/-- 'humpyardlaw05.FieldTells', WHERE WHAT IT READS IS OF BULK AT MOST 1048576: true; the input reads as it did. -/
def fieldTellsUptoRow : OpenClaim := { program := "ytcocpfgemdkkfaa", sum := "31fe549be57c89f5e20cf14064c6a22e711e44c7d0f14e032578b50fa8aa9488", func := "humpyard/humpyardlaw05.FieldTells", spec := "fieldTells", unfollowed := true, recurses := true, loops := true, apart := false, narrowed := true }
def FieldTellsUptoSaid : Prop := fieldTellsUptoRow.holds Try.pinned (OpenSpec.upto fieldTellsSpec)

/-- 'humpyardlaw17.BrokerMoves', WHERE WHAT IT READS IS OF BULK AT MOST 1048576: true; the input reads as it did. -/
def brokerMovesUptoRow : OpenClaim := { program := "ytcocpfgemdkkfaa", sum := "31fe549be57c89f5e20cf14064c6a22e711e44c7d0f14e032578b50fa8aa9488", func := "humpyard/humpyardlaw17.BrokerMoves", spec := "brokerMoves", inPlace := ["sync/atomic.StoreInt64", "sync/atomic.AddInt64", "slices.overlaps[humpyard/api.Mail]"], apart := false, narrowed := true }
def BrokerMovesUptoSaid : Prop := brokerMovesUptoRow.holds Try.pinned (OpenSpec.upto brokerMovesSpec)

/-- 'humpyardlaw17.BrokerPlays', WHERE WHAT IT READS IS OF BULK AT MOST 1048576: true; the input reads as it did. -/
def brokerPlaysUptoRow : OpenClaim := { program := "ytcocpfgemdkkfaa", sum := "31fe549be57c89f5e20cf14064c6a22e711e44c7d0f14e032578b50fa8aa9488", func := "humpyard/humpyardlaw17.BrokerPlays", spec := "brokerPlays", inPlace := ["sync/atomic.StoreInt64", "sync/atomic.AddInt64", "slices.overlaps[humpyard/api.Mail]"], apart := false, narrowed := true }
def BrokerPlaysUptoSaid : Prop := brokerPlaysUptoRow.holds Try.pinned (OpenSpec.upto brokerPlaysSpec)

/-- 'humpyardlaw17.BrokerTrue', WHERE WHAT IT READS IS OF BULK AT MOST 1048576: true; the input reads as it did. -/
def brokerTrueUptoRow : OpenClaim := { program := "ytcocpfgemdkkfaa", sum := "31fe549be57c89f5e20cf14064c6a22e711e44c7d0f14e032578b50fa8aa9488", func := "humpyard/humpyardlaw17.BrokerTrue", spec := "brokerTrue", inPlace := ["sync/atomic.StoreInt64", "sync/atomic.AddInt64", "slices.overlaps[humpyard/api.Mail]"], apart := false, narrowed := true }
def BrokerTrueUptoSaid : Prop := brokerTrueUptoRow.holds Try.pinned (OpenSpec.upto brokerTrueSpec)

end Rows
end Go.Proofs.Ytcocpfgemdkkfaa
