/-
  Plain lemmas for printed functions. Own work.
-/
import Derived.Test.YtcocpfgemdkkfaaAiTie
namespace Go.Yard

theorem chk_pos {R : Type} {b : Bool} {k : Option R} (h : b = true) : chk b k = k := by subst h; rfl

theorem wrap_id {n : Int} (h1 : -9223372036854775808 ≤ n) (h2 : n ≤ 9223372036854775807) : IntKind.i64.wrap n = n := by
  simp only [IntKind.wrap, IntKind.bits, IntKind.signed, IntKind.min, IntKind.max]
  simp
  omega

theorem Json.eta (x : Json) : (⟨x.kind, ⟨x.num.mant, x.num.exp⟩, x.text, x.names, x.items⟩ : Json) = x := by cases x; rfl
theorem Raw.eta (x : Raw) : (⟨x.kind, x.mant, x.exp, x.text, x.items⟩ : Raw) = x := by cases x; rfl

theorem getD_at {α : Type} {l : List α} {i : Nat} (h : i < l.length) (d : α) : l.getD i d = l[i] := by simp [List.getD, h]
end Go.Yard
