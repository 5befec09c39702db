/-
  The abstract interpreter, part 32: the table of types against a program: its parts. Own work.
-/
import Derived.Test.YtcocpfgemdkkfaaAiPat
namespace Go.Yard
open Go.RowKit

section
variable {P : Program} {tt : TTab} {w : World} {h : Heap} {c : Cfg}

theorem zero_rep : ∀ l : List Value, RepL w h c (l.map ofConst) l
  | [] => .nil
  | v :: l => .cons (ofConst_rep v) (zero_rep l)

def zeroOf (i : TypeInfo) : Option (Nat × List V) := i.zero.map fun z => (z.cells.size, z.cells.toList.map ofConst)

/-- What the program says of a type, at a glance. -/
def InfoOk (P : Program) (tt : TTab) (t : Nat) : Prop :=
  ∃ i, P.info? t = some i ∧ i.size = (tt.at t).size ∧ i.bytes = (tt.at t).bytes ∧ zeroOf i = some ((tt.at t).size, (tt.at t).zero)

theorem InfoOk.spec {t : Nat} (h : InfoOk P tt t) : ∃ i z, P.info? t = some i ∧ i.size = (tt.at t).size ∧ i.bytes = (tt.at t).bytes ∧ i.zero = some z ∧ z.cells.size = i.size ∧
    ∀ (w : World) (h : Heap) (c : Cfg), RepL w h c (tt.at t).zero z.cells.toList := by
  obtain ⟨i, h1, h2, h3, h4⟩ := h
  unfold zeroOf at h4
  cases hz : i.zero with
  | none => rw [hz] at h4; cases h4
  | some z =>
    rw [hz] at h4
    simp only [Option.map_some, Option.some.injEq, Prod.mk.injEq] at h4
    refine ⟨i, z, h1, h2, h3, hz, by rw [h4.1, h2], fun w h c => ?_⟩
    rw [← h4.2]
    exact zero_rep _

theorem at_past {n t : Nat} (hn : tt.length = n) (ht : n ≤ t) : tt.at t = TI.none := by
  unfold TTab.at
  rw [List.getD, List.getElem?_eq_none (by omega)]
  rfl

theorem und_past {n t : Nat} (hn : tt.length = n) (ht : n ≤ t) : (tt.at t).d.Is P t := by rw [at_past hn ht]; trivial
theorem ok_past {n t : Nat} (hn : tt.length = n) (ht : n ≤ t) (h : tt.ok t = true) : False := by
  unfold TTab.ok at h
  rw [at_past hn ht] at h
  cases h
theorem eq_past {n t : Nat} (hn : tt.length = n) (ht : n ≤ t) (h : (tt.at t).eq = true) : False := by
  rw [at_past hn ht] at h
  cases h
end
end Go.Yard
