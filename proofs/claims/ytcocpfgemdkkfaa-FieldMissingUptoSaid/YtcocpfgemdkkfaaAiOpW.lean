/-
  The abstract interpreter, part 11: whatever asks the frame alone: the theorem. Own work.
-/
import Derived.Test.YtcocpfgemdkkfaaAiOpV
namespace Go.Yard
open Go.RowKit

section
variable {P : Program} {tt : TTab} {w : World} {h : Heap} {c : Cfg} {R : Type}

theorem repl_map {ρ : Operand → V} {ρ' : Operand → Value} (hρ : ∀ x, Rep w h c (ρ x) (ρ' x)) (l : List Operand) : RepL w h c (l.map ρ) (l.map ρ') := RepL.map l fun x _ => hρ x

theorem repl_arr {ρ : Operand → V} {ρ' : Operand → Value} (hρ : ∀ x, Rep w h c (ρ x) (ρ' x)) (l : Array Operand) :
    (l.toList.map ρ).length = (l.map ρ').size ∧ ∀ (j : Nat) (v : V) (d : Value), (l.toList.map ρ)[j]? = some v → (l.map ρ')[j]? = some d → Rep w h c v d := by
  have := repl_map hρ l.toList
  exact ⟨by simp, fun j v d hv hd => this.2 j v d hv (by simpa using hd)⟩

theorem min_sound {ts : Array TypeId} {o : Nat} {x y : V} {x' y' : Value} (rx : Rep w h c x x') (ry : Rep w h c y y') {k : V → Option R} {r : R}
    (hk : (match (generalizing := false) x, y with | .int i a, .int j b => if i = j then k (.int i (min a b)) else none | _, _ => none) = some r) : Makes P w h c (Builtin.min_ ts o #[x', y']) k r := by
  split at hk
  · rename_i i a j b'
    split at hk
    · rename_i hij
      subst hij
      obtain ⟨rfl, ha⟩ := rx.int_inv
      obtain ⟨rfl, hb⟩ := ry.int_inv
      refine ⟨_, .int i (min a b'), ?_, .int (by unfold IntKind.has at *; omega), hk⟩
      rw [run_min_int2]
      congr 2
      split <;> omega
    · cases hk
  · cases hk

theorem max_sound {ts : Array TypeId} {o : Nat} {x y : V} {x' y' : Value} (rx : Rep w h c x x') (ry : Rep w h c y y') {k : V → Option R} {r : R}
    (hk : (match (generalizing := false) x, y with | .int i a, .int j b => if i = j then k (.int i (max a b)) else none | _, _ => none) = some r) : Makes P w h c (Builtin.max_ ts o #[x', y']) k r := by
  split at hk
  · rename_i i a j b'
    split at hk
    · rename_i hij
      subst hij
      obtain ⟨rfl, ha⟩ := rx.int_inv
      obtain ⟨rfl, hb⟩ := ry.int_inv
      refine ⟨_, .int i (max a b'), ?_, .int (by unfold IntKind.has at *; omega), hk⟩
      rw [run_max_int2]
      congr 2
      split <;> omega
    · cases hk
  · cases hk

/-- WHATEVER ASKS THE FRAME ALONE IS SOUND. -/
theorem opP_sound (T : TOK P tt) {o : Oper} {ρ : Operand → V} {ρ' : Operand → Value} (hρ : ∀ x, Rep w h c (ρ x) (ρ' x)) {k : V → Option R} {r : R}
    (hk : opP tt o.op ρ k = some r) : ∃ v v', (execOp ρ' o).run P w = .ok (.value v') w ∧ Rep w h c v v' ∧ k v = some r := by
  obtain ⟨dst, op, type, pos, after, guard⟩ := o
  cases op <;> simp only [opP] at hk <;> try (first | cases hk)
  case move x => exact ⟨_, _, by simp [execOp], hρ x, hk⟩
  case assign x => exact ⟨_, _, by simp [execOp], hρ x, hk⟩
  case pick cc a b =>
    have rc := hρ cc
    have ra := hρ a
    have rb := hρ b
    split at hk
    · rename_i t ht
      rw [ht] at rc
      have ec := rc.bool_inv
      have run : (execOp ρ' ⟨dst, .pick cc a b, type, pos, after, guard⟩).run P w = .ok (.value (if t then ρ' a else ρ' b)) w := by
        simp [execOp, ec, asBool]
      split at hk
      · rename_i u v hu hv
        rw [hu] at ra; rw [hv] at rb
        refine ⟨_, _, run, ?_, hk⟩
        rw [ra.bool_inv, rb.bool_inv]
        cases t <;> exact .bool _
      · cases t
        · exact ⟨_, _, run, rb, hk⟩
        · exact ⟨_, _, run, ra, hk⟩
    · cases hk
  case nilCheck x =>
    have rx := hρ x
    split at hk <;> try (first | cases hk)
    · rename_i i o hx
      rw [hx] at rx
      have rx' := rx
      cases rx with
      | ptr hi hv => obtain ⟨b, hv, _⟩ := hv; exact ⟨_, ρ' x, by simp [execOp, hv], rx', hk⟩
    · rename_i cs hx
      rw [hx] at rx
      have rx' := rx
      generalize hy : ρ' x = y at rx
      cases rx with
      | iptr f hc hr => exact ⟨_, ρ' x, by simp [execOp, hy], rx', hk⟩
    · rename_i i n j o hx
      rw [hx] at rx
      have rx' := rx
      cases rx with
      | rptr hi hv => obtain ⟨b, hv, _⟩ := hv; exact ⟨_, ρ' x, by simp [execOp, hv], rx', hk⟩
    · rename_i f a b hx
      rw [hx] at rx
      have rx' := rx
      generalize hy : ρ' x = y at rx
      cases rx with
      | func ha hb hra hrb => exact ⟨_, ρ' x, by simp [execOp, hy], rx', hk⟩
  case binOp op t x y ty =>
    exact makes_run (binOp_sound T x y (hρ x) (hρ y) hk)
  case unOp op t x =>
    have rx := hρ x
    split at hk <;> try (first | cases hk)
    · rename_i i n hx
      rw [hx] at rx
      exact ⟨_, .int i (i.wrap (0 - n)), by simp [execOp, Op.unary, rx.int_inv.1, Op.intArith], .int (has_wrap _ _), hk⟩
    · rename_i b hx
      rw [hx] at rx
      exact ⟨_, _, by simp [execOp, Op.unary, rx.bool_inv], .bool _, hk⟩
  case convert s d x =>
    split at hk
    · cases hk
    · rename_i hs
      exact makes_run (convert_sound T (hρ x) hk (by simpa using hs))
  case fieldAddr s x f => exact makes_run (fieldAddr_sound T (hρ x) hk)
  case field s x f => exact makes_run (field_sound T (hρ x) hk)
  case indexAddr t x i => exact makes_run (indexAddr_sound T (hρ x) (hρ i) hk)
  case index t x i => exact makes_run (index_sound T (hρ x) (hρ i) hk)
  case slice t x lo hi mx =>
    split at hk
    · cases hk
    · exact makes_run (slice_sound T (hρ x) hρ lo hi hk)
  case makeFunc fn first cap =>
    cases fn <;> simp only at hk <;> try (first | cases hk)
    rename_i f
    obtain ⟨l1, r1⟩ := repl_arr hρ first
    obtain ⟨l2, r2⟩ := repl_arr hρ cap
    exact ⟨_, .func (.func f) (first.map ρ') (cap.map ρ'), by simp [execOp, Instr.makeFunc], .func l1 l2 r1 r2, hk⟩
  case extract t i =>
    have rt := hρ t
    split at hk <;> try (first | cases hk)
    rename_i vs ht
    rw [ht] at rt
    split at hk
    · rename_i v hv
      generalize hy : ρ' t = y at rt
      cases rt with
      | @tuple _ x hl hr =>
        have hlt : i < vs.length := (List.getElem?_eq_some_iff.1 hv).1
        have hx : x[i]? = some (x[i]'(by omega)) := Array.getElem?_eq_getElem (by omega)
        exact ⟨v, _, by simp [execOp, hy, Instr.extract, hx], hr i v _ hv hx, hk⟩
    · cases hk
  case build t parts => exact makes_run (build_sound T hρ hk)
  case call cl =>
    obtain ⟨callee, args, argTypes⟩ := cl
    simp only at hk
    split at hk <;> try (first | cases hk)
    · rename_i x ha
      obtain rfl : args = #[x] := by cases args; simp_all
      split at hk <;> try (first | cases hk)
      rename_i t ht
      obtain rfl : argTypes = #[t] := by cases argTypes; simp_all
      have := makes_run (len_sound (P := P) (o := type) T (hρ x) hk)
      simpa [execOp, resolve, invoke, builtin] using this
    · rename_i x y ha
      obtain rfl : args = #[x, y] := by cases args; simp_all
      have := makes_run (min_sound (P := P) (ts := argTypes) (o := type) (hρ x) (hρ y) hk)
      simpa [execOp, resolve, invoke, builtin] using this
    · rename_i x y ha
      obtain rfl : args = #[x, y] := by cases args; simp_all
      have := makes_run (max_sound (P := P) (ts := argTypes) (o := type) (hρ x) (hρ y) hk)
      simpa [execOp, resolve, invoke, builtin] using this
end
end Go.Yard
