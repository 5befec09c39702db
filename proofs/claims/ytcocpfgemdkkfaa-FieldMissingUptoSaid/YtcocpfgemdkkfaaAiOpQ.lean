/-
  The abstract interpreter, part 6: operations that ask the frame alone, all of them. Own work.
-/
import Derived.Test.YtcocpfgemdkkfaaAiOpP
namespace Go.Yard
open Go.RowKit

section
variable {P : Program} {tt : TTab} {w : World} {h : Heap} {c : Cfg} {R : Type}

theorem beq_data (a b : ByteArray) : (a.toList == b.toList) = (a.data.toList == b.data.toList) := by rw [toList_data, toList_data]

theorem size_append (a b : ByteArray) : (a ++ b).size = a.size + b.size := ByteArray.size_append

theorem binK_str {op : BinOp} {a b : ByteArray} (t : TypeId) (x y : Operand) {k : V → Option R} {r : R}
    (hk : binK op (.str a.data.toList) (.str b.data.toList) k = some r) :
    Makes P w h c (do eqGuard op t x y (.string a) (.string b); binOp op t (.string a) (.string b)) k r := by
  have hg : ∀ op : BinOp, (eqGuard op t x y (.string a) (.string b)).run P w = .ok () w := fun op => by cases op <;> simp [eqGuard]
  have he : (a.toList == b.toList) = (a.data.toList == b.data.toList) := beq_data a b
  have hl : Op.bytesLess a.toList b.toList = bytesLt a.data.toList b.data.toList := by rw [toList_data, toList_data, bytesLt_eq]
  unfold Makes
  simp only [Sem.run_bind, hg, Result.andThen_ok]
  cases op <;> simp only [binK] at hk <;> try (first | cases hk)
  case add =>
    obtain ⟨h0, hk⟩ := chk_some hk
    simp at h0
    refine ⟨_, .string (a ++ b), ?_, rep_str (a ++ b) (by simp) (by simp; exact h0), hk⟩
    have : ¬ (((a.size + b.size : Nat) : Int) > IntKind.i64.max) := by
      have e : IntKind.i64.max = 9223372036854775807 := by decide
      rw [e]; omega
    simp only [binOp, Op.stringOp]
    rw [if_neg this]; rfl
  case eql => exact ⟨_, .bool _, by simp only [binOp, Op.stringOp, he]; rfl, .bool _, hk⟩
  case neq => exact ⟨_, .bool _, by simp only [binOp, Op.stringOp, he]; rfl, .bool _, hk⟩
  case lss => exact ⟨_, .bool _, by simp only [binOp, Op.stringOp, hl]; rfl, .bool _, hk⟩
  case leq => exact ⟨_, .bool _, by simp only [binOp, Op.stringOp, hl, he]; rfl, .bool _, hk⟩
  case gtr => exact ⟨_, .bool _, by simp only [binOp, Op.stringOp, hl, he]; rfl, .bool _, hk⟩
  case geq => exact ⟨_, .bool _, by simp only [binOp, Op.stringOp, hl]; rfl, .bool _, hk⟩

theorem binK_bool (T : TOK P tt) {op : BinOp} {a b : Bool} {t : TypeId} (ht : (tt.at t).d = .bool) (x y : Operand) {k : V → Option R} {r : R}
    (hk : binK op (.bool a) (.bool b) k = some r) : Makes P w h c (do eqGuard op t x y (.bool a) (.bool b); binOp op t (.bool a) (.bool b)) k r := by
  have hu : P.underlying t = some .bool := und_of T ht
  have hg : ∀ op : BinOp, (eqGuard op t x y (.bool a) (.bool b)).run P w = .ok () w := fun op => by cases op <;> simp [eqGuard]
  have hq := run_equalIn_bool w 9999 t a b hu
  unfold Makes
  simp only [Sem.run_bind, hg, Result.andThen_ok]
  cases op <;> simp only [binK, eqV] at hk <;> try (first | cases hk)
  case eql => exact ⟨_, .bool (a == b), by simp [binOp, Op.equal, Op.maxDepth, hq], .bool _, hk⟩
  case neq => exact ⟨_, .bool (!(a == b)), by simp [binOp, Op.equal, Op.maxDepth, hq], .bool _, hk⟩

theorem binK_agg (T : TOK P tt) {op : BinOp} {cs ds : List V} {xs ys : Array Value} {t : TypeId} (ht : eqOk (tt.at t) cs ds = true) (rx : RepL w h c cs xs.toList) (ry : RepL w h c ds ys.toList)
    (x y : Operand) {k : V → Option R} {r : R} (hk : binK op (.agg cs) (.agg ds) k = some r) :
    Makes P w h c (do eqGuard op t x y (.agg xs) (.agg ys); binOp op t (.agg xs) (.agg ys)) k r := by
  cases op <;> simp only [binK, eqV] at hk <;> try (first | cases hk)
  all_goals
    split at hk
    · rename_i b hb
      obtain ⟨hg, hq⟩ := T.eqs t w h c cs ds xs ys b ht rx ry hb
      have hg' := fun op => run_eqGuard_agg (P := P) (w := w) op t x y xs ys hg
      unfold Makes
      simp only [Sem.run_bind, hg', Result.andThen_ok]
      first
        | exact ⟨_, .bool b, by simp only [binOp]; unfold Op.equal Op.maxDepth; simp [hq], .bool _, hk⟩
        | exact ⟨_, .bool (!b), by simp only [binOp]; unfold Op.equal Op.maxDepth; simp [hq], .bool _, hk⟩
    · cases hk

theorem run_equalIn_ptrnil (d : Nat) (t e : TypeId) (q : Option Addr) (hu : P.underlying t = some (.pointer e)) :
    (Op.equalIn (d + 1) t (.pointer q) (.pointer none)).run P w = .ok q.isNone w := by
  cases q <;> simp [Op.equalIn, run_underlying hu]

theorem run_equal_ptrnil (t e : TypeId) (q : Option Addr) (hu : P.underlying t = some (.pointer e)) :
    (Op.equal t (.pointer q) (.pointer none)).run P w = .ok q.isNone w := run_equalIn_ptrnil 9999 t e q hu

theorem ptrK_sound (T : TOK P tt) {op : BinOp} {a b : V} {u v : Value} {t e : TypeId} (ht : (tt.at t).d = .ptr e) (ra : Rep w h c a u) (rb : Rep w h c b v) (x y : Operand)
    {k : V → Option R} {r : R} (hk : ptrK op a b k = some r) : Makes P w h c (do eqGuard op t x y u v; binOp op t u v) k r := by
  have hu : P.underlying t = some (.pointer e) := und_of T ht
  unfold ptrK at hk
  split at hk
  · cases rb
    have key : ∀ r, isNilV a = some r → ∃ q : Option Addr, u = .pointer q ∧ r = q.isNone := by
      intro r hr
      unfold isNilV at hr
      split at hr <;> try cases hr
      · cases ra; exact ⟨none, rfl, rfl⟩
      · cases ra with | ptr _ hv => obtain ⟨b, hv, _⟩ := hv; exact ⟨_, hv, rfl⟩
      · cases ra; exact ⟨_, rfl, rfl⟩
      · cases ra with | rptr _ hv => obtain ⟨b, hv, _⟩ := hv; exact ⟨_, hv, rfl⟩
    split at hk
    · rename_i q hq
      obtain ⟨q, rfl, rfl⟩ := key _ hq
      refine ⟨_, .bool q.isNone, ?_, .bool _, hk⟩
      have hq := run_equal_ptrnil (w := w) t e q hu
      cases q <;> simp [eqGuard, binOp, hq]
    · rename_i q hq
      obtain ⟨q, rfl, rfl⟩ := key _ hq
      refine ⟨_, .bool (!q.isNone), ?_, .bool _, hk⟩
      have hq := run_equal_ptrnil (w := w) t e q hu
      cases q <;> simp [eqGuard, binOp, hq]
    · cases hk
  · cases hk

theorem Ty.sz_pos' (T : Ty) : 0 < T.sz := by cases T <;> simp [Ty.sz]

theorem run_equalIn_slnil (d : Nat) (t e : TypeId) (A : Option Addr) (n cap : Nat) (hu : P.underlying t = some (.slice e)) :
    (Op.equalIn (d + 1) t (.slice A n cap) (.slice none 0 0)).run P w = .ok A.isNone w := by
  cases A <;> simp [Op.equalIn, run_underlying hu]

theorem slK_sound (T : TOK P tt) {op : BinOp} {a b : V} {u v : Value} {t e : TypeId} (ht : (tt.at t).d = .slice e) (ra : Rep w h c a u) (rb : Rep w h c b v) (x y : Operand)
    {k : V → Option R} {r : R} (hk : slK op a b k = some r) : Makes P w h c (do eqGuard op t x y u v; binOp op t u v) k r := by
  have hu : P.underlying t = some (.slice e) := und_of T ht
  unfold slK at hk
  split at hk
  · cases rb
    have key : ∀ (neg : Bool) (k : V → Option R), nilOf a (fun r => k (nilAns neg r)) = some r → ∃ A n cap, u = .slice A n cap ∧ ∃ z, Rep w h c z (.bool (bif neg then !A.isNone else A.isNone)) ∧ k z = some r := by
      intro neg k hk
      unfold nilOf at hk
      split at hk <;> try cases hk
      · cases ra; exact ⟨none, 0, 0, rfl, .bool (bif neg then false else true), by cases neg <;> exact .bool _, by cases neg <;> exact hk⟩
      · rename_i T l tk _
        cases ra with
        | @sl _ _ _ A cap f hcap hmx hc hr hnil hown =>
          refine ⟨A, _, cap, rfl, ?_⟩
          cases hl : l.isEmpty with
          | true => rw [hl] at hk; exact ⟨.anyb, .anyb _, hk⟩
          | false =>
            rw [hl] at hk
            have hpos : 0 < l.length := List.length_pos_iff.2 (by intro e; rw [e] at hl; cases hl)
            obtain ⟨b, o, rfl, _⟩ := hc 0 0 hpos (Ty.sz_pos' T)
            exact ⟨_, .bool _, hk⟩
      · rename_i i n _
        cases ra with
        | row hi hn hv =>
          obtain ⟨A, cap, rfl, hA, _⟩ := hv
          refine ⟨A, n, cap, rfl, ?_⟩
          cases hl : decide (n = 0) with
          | true => rw [hl] at hk; exact ⟨.anyb, .anyb _, hk⟩
          | false =>
            rw [hl] at hk
            obtain ⟨q, rfl⟩ := hA (Nat.pos_of_ne_zero (by simpa using hl))
            exact ⟨_, .bool _, hk⟩
    split at hk
    · obtain ⟨A, n, cap, rfl, z, rz, hk⟩ := key false k hk
      refine ⟨_, .bool A.isNone, ?_, rz, hk⟩
      have hq := run_equalIn_slnil (w := w) 9999 t e A n cap hu
      simp [eqGuard, binOp, Op.equal, Op.maxDepth, hq]
    · obtain ⟨A, n, cap, rfl, z, rz, hk⟩ := key true k hk
      refine ⟨_, .bool (!A.isNone), ?_, rz, hk⟩
      have hq := run_equalIn_slnil (w := w) 9999 t e A n cap hu
      simp [eqGuard, binOp, Op.equal, Op.maxDepth, hq]
    · cases hk
  · cases hk
end
end Go.Yard
