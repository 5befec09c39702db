/-
  The abstract interpreter, part 20: writes: the theorem. Own work.
-/
import Derived.Test.YtcocpfgemdkkfaaAiAppend2
namespace Go.Yard
open Go.RowKit

section
variable {P : Program} {tt : TTab} {w w' : World} {h : Heap} {c : Cfg} {R : Type}

/-- WHATEVER WRITES IS SOUND. -/
theorem opW_sound (T : TOK P tt) (wf : WF w h c) {o : Oper} {ρ : Operand → V} {ρ' : Operand → Value} (hρ : ∀ x, Rep w h c (ρ x) (ρ' x)) {id : Nat} (hid : id < h.length) (hf : h.at id = .free) {k : V → Heap → Option R} {r : R}
    (hk : opW tt o.op ρ h id k = some r) :
    ∃ v h' v' w' c' nx, (execOp ρ' o).run P w = .ok nx w' ∧ (nx = .value v' ∨ nx = .skip ∧ v' = undef) ∧ WF w' h' c' ∧ Ext w h c w' h' c' ∧ Rep w' h' c' v v' ∧ k v h' = some r := by
  obtain ⟨dst, op, type, pos, after, guard⟩ := o
  cases op <;> (try simp only [opW] at hk) <;> try (first | cases hk)
  case store t x y =>
    split at hk <;> try (first | cases hk)
    rename_i vs hvs
    obtain ⟨rv, h1, _⟩ := flatK_sound (hρ y) hvs
    split at hk <;> try (first | cases hk)
    rename_i hcond
    simp only [Bool.and_eq_true, decide_eq_true_eq] at hcond
    obtain ⟨hok, hsz⟩ := hcond
    have rx := hρ x
    split at hk <;> try (first | cases hk)
    · rename_i i o hx
      rw [hx] at rx
      split at hk <;> try (first | cases hk)
      rename_i cs hcs
      split at hk <;> try (first | cases hk)
      rename_i hlt
      obtain ⟨w', g1, g2, g3⟩ := store_cells (P := P) wf T rx hcs rv h1 hok hsz hlt
      exact ⟨_, _, undef, w', c, .skip, by simp [execOp, g1], .inr ⟨rfl, rfl⟩, g2, g3, .undef _, hk⟩
    · rename_i i sz j o hx
      rw [hx] at rx
      split at hk <;> try (first | cases hk)
      rename_i T' l hrow
      split at hk <;> try (first | cases hk)
      rename_i hn
      split at hk <;> try (first | cases hk)
      rename_i hlt
      split at hk <;> try (first | cases hk)
      rename_i z hz
      obtain ⟨hj, hk⟩ := chk_some hk
      simp only [decide_eq_true_eq] at hj
      obtain ⟨w', g1, g2, g3⟩ := store_row (P := P) wf T rx hrow rv h1 hok hn hsz hj hlt hz
      exact ⟨_, _, undef, w', c, .skip, by simp [execOp, g1], .inr ⟨rfl, rfl⟩, g2, g3, .undef _, hk⟩
  case call cl =>
    obtain ⟨callee, args, argTypes⟩ := cl
    simp only at hk
    split at hk <;> try (first | cases hk)
    rename_i s x t xt ha hat
    obtain rfl : args = #[s, x] := by cases args; simp_all
    obtain rfl : argTypes = #[t, xt] := by cases argTypes; simp_all
    split at hk <;> try (first | cases hk)
    · rename_i e e' ht hxt
      have hu := und_of T hxt
      simp only [TD.Is] at hu
      obtain ⟨v, h', v', w', c', g1, g2, g3, g4, g5⟩ := append_sound T wf ht (.inl ⟨_, hu⟩) (hρ s) (hρ x) hid hf type hk
      exact ⟨v, h', v', w', c', .value v', by simp [execOp, resolve, invoke, builtin, g1], .inl rfl, g2, g3, g4, g5⟩
    · rename_i e ht hxt
      have hu := und_of T hxt
      simp only [TD.Is] at hu
      obtain ⟨v, h', v', w', c', g1, g2, g3, g4, g5⟩ := append_sound T wf ht (.inr hu) (hρ s) (hρ x) hid hf type hk
      exact ⟨v, h', v', w', c', .value v', by simp [execOp, resolve, invoke, builtin, g1], .inl rfl, g2, g3, g4, g5⟩
end
end Go.Yard
