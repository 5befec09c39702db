/-
  The abstract interpreter, part 5: operations that ask the frame alone are sound. Own work.
-/
import Derived.Test.YtcocpfgemdkkfaaAiTypes
namespace Go.Yard
open Go.RowKit

section
variable {P : Program} {tt : TTab} {w : World} {h : Heap} {c : Cfg} {R : Type}

theorem has_wrap (k : IntKind) (n : Int) : k.has (k.wrap n) := by
  unfold IntKind.has
  cases k <;> simp only [IntKind.wrap, IntKind.min, IntKind.max, IntKind.signed, IntKind.bits] <;> simp <;> omega

theorem chk_some {b : Bool} {k : Option R} {r : R} (hk : chk b k = some r) : b = true ∧ k = some r := by
  unfold chk at hk; cases b <;> simp_all

theorem Rep.int_inv {k : IntKind} {n : Int} {v : Value} (r : Rep w h c (.int k n) v) : v = .int k n ∧ k.has n := by cases r; exact ⟨rfl, ‹_›⟩
theorem Rep.bool_inv {b : Bool} {v : Value} (r : Rep w h c (.bool b) v) : v = .bool b := by cases r; rfl
theorem Rep.str_inv {s : Str} {v : Value} (r : Rep w h c (.str s) v) : ∃ t, v = .string t ∧ t.data.toList = s ∧ t.size ≤ mx := by cases r; exact ⟨_, rfl, rfl, ‹_›⟩

theorem has_byte (n : Nat) (hn : n < 256) : IntKind.u8.has (n : Int) := by unfold IntKind.has; simp [IntKind.min, IntKind.max, IntKind.signed, IntKind.bits]; omega
theorem has_len (n : Nat) (hn : n ≤ mx) : IntKind.i64.has (n : Int) := by unfold IntKind.has; unfold mx at hn; simp [IntKind.min, IntKind.max, IntKind.signed, IntKind.bits]; omega

theorem ofConst_rep (v : Value) : Rep w h c (ofConst v) v := by
  unfold ofConst
  split
  · exact .bool _
  · split
    · rename_i hk; unfold inK at hk; simp at hk; exact .int hk
    · exact .undef _
  · split
    · exact .str ‹_›
    · exact .undef _
  · exact .nilptr
  · exact .nilsl
  · exact .nilfunc
  · exact .nilmap
  · exact .niliface
  · exact .undef _

theorem string_ext {a b : ByteArray} (h : a.data.toList = b.data.toList) : a = b := by
  obtain ⟨⟨x⟩⟩ := a; obtain ⟨⟨y⟩⟩ := b; simp at h; subst h; rfl
theorem toList_data (a : ByteArray) : a.toList = a.data.toList := ByteArray.toList_eq a
theorem size_data (a : ByteArray) : a.data.toList.length = a.size := by rw [Array.length_toList]; rfl
theorem rep_str {s : Str} (t : ByteArray) (e : t.data.toList = s) (hl : s.length ≤ mx) : Rep w h c (.str s) (.string t) := by
  subst e; rw [size_data] at hl; exact .str hl

theorem bytesLt_eq : ∀ a b : Str, Op.bytesLess a b = bytesLt a b
  | [], [] => rfl
  | [], _ :: _ => rfl
  | _ :: _, [] => rfl
  | a :: x, b :: y => by simp [Op.bytesLess, bytesLt, bytesLt_eq x y]

/-- The shape of a step that only makes a value. -/
def Makes (P : Program) (w : World) (h : Heap) (c : Cfg) (s : Sem Value) (k : V → Option R) (r : R) : Prop := ∃ v v', s.run P w = .ok v' w ∧ Rep w h c v v' ∧ k v = some r

theorem tmod_bounds (a b : Int) : (0 ≤ a → 0 ≤ a.tmod b ∧ a.tmod b ≤ a) ∧ (a ≤ 0 → a ≤ a.tmod b ∧ a.tmod b ≤ 0) := by
  have key : ∀ m : Nat, ∀ b : Int, 0 ≤ (m : Int).tmod b ∧ (m : Int).tmod b ≤ m := fun m b => by
    cases b with
    | ofNat n =>
      have : ((m : Int).tmod (Int.ofNat n)) = ((m % n : Nat) : Int) := rfl
      have h := Nat.mod_le m n
      rw [this]; omega
    | negSucc n =>
      have : ((m : Int).tmod (Int.negSucc n)) = ((m % (n + 1) : Nat) : Int) := rfl
      have h := Nat.mod_le m (n + 1)
      rw [this]; omega
  constructor
  · intro h
    obtain ⟨m, rfl⟩ := Int.eq_ofNat_of_zero_le h
    exact key m b
  · intro h
    obtain ⟨m, hm⟩ := Int.eq_ofNat_of_zero_le (show 0 ≤ -a by omega)
    have e : a = -(m : Int) := by omega
    subst e
    rw [Int.neg_tmod]
    have := key m b
    omega

theorem binK_int {op : BinOp} {i j : IntKind} {a b : Int} (hb : j.has b) (t : TypeId) (x y : Operand) {k : V → Option R} {r : R} (hk : binK op (.int i a) (.int j b) k = some r) (ha : i.has a) :
    Makes P w h c (do eqGuard op t x y (.int i a) (.int j b); binOp op t (.int i a) (.int j b)) k r := by
  have hg : ∀ op : BinOp, (eqGuard op t x y (.int i a) (.int j b)).run P w = .ok () w := fun op => by cases op <;> simp [eqGuard]
  unfold Makes
  simp only [Sem.run_bind, hg, Result.andThen_ok]
  have hw := fun n => has_wrap i n
  by_cases hsh : op = .shl ∨ op = .shr
  · rcases hsh with rfl | rfl
    · simp only [binK] at hk
      obtain ⟨h0, hk⟩ := chk_some hk
      simp at h0
      exact ⟨_, _, by simp [binOp, Op.shift]; intro hn; omega, .int (hw _), hk⟩
    · simp only [binK] at hk
      obtain ⟨h0, hk⟩ := chk_some hk
      simp at h0
      refine ⟨_, _, by simp [binOp, Op.shift]; intro hn; omega, .int ?_, hk⟩
      have hp : (0 : Int) < 2 ^ (min b.toNat i.bits) := Int.pow_pos (by decide)
      have h1 : (1 : Int) ≤ 2 ^ (min b.toNat i.bits) := hp
      unfold IntKind.has at ha ⊢
      have hmin : i.min ≤ 0 := by cases i <;> simp [IntKind.min, IntKind.signed, IntKind.bits]
      have hmax : 0 ≤ i.max := by cases i <;> simp [IntKind.max, IntKind.signed, IntKind.bits]
      rw [Int.fdiv_eq_ediv_of_nonneg _ (Int.le_of_lt hp)]
      constructor
      · rcases Int.lt_or_le a 0 with hn | hn
        · have : a ≤ a / 2 ^ (min b.toNat i.bits) := by
            refine (Int.le_ediv_iff_mul_le hp).2 ?_
            have h2 := Int.mul_nonneg (show 0 ≤ -a by omega) (show 0 ≤ (2 : Int) ^ (min b.toNat i.bits) - 1 by omega)
            rw [Int.mul_sub, Int.neg_mul] at h2
            omega
          omega
        · have := Int.ediv_nonneg hn (Int.le_of_lt hp); omega
      · rcases Int.lt_or_le a 0 with hn | hn
        · have := Int.ediv_neg_of_neg_of_pos hn hp; omega
        · have := Int.ediv_le_self (2 ^ (min b.toNat i.bits)) hn; omega
  · have hk' : (if i = j then (match op with
        | .add => k (.int i (i.wrap (a + b)))
        | .sub => k (.int i (i.wrap (a - b)))
        | .mul => k (.int i (i.wrap (a * b)))
        | .quo => chk (!decide (b = 0)) (k (.int i (i.wrap (a.tdiv b))))
        | .rem => chk (!decide (b = 0)) (k (.int i (a.tmod b)))
        | .and => k (.int i (i.wrap (BitVec.ofInt i.bits a &&& BitVec.ofInt i.bits b).toNat))
        | .or => k (.int i (i.wrap (BitVec.ofInt i.bits a ||| BitVec.ofInt i.bits b).toNat))
        | .xor => k (.int i (i.wrap (BitVec.ofInt i.bits a ^^^ BitVec.ofInt i.bits b).toNat))
        | .eql => k (.bool (a == b))
        | .neq => k (.bool (a != b))
        | .lss => k (.bool (decide (a < b)))
        | .leq => k (.bool (decide (a ≤ b)))
        | .gtr => k (.bool (decide (a > b)))
        | .geq => k (.bool (decide (a ≥ b)))
        | _ => none) else none) = some r := by
      cases op <;> first | exact absurd (.inl rfl) hsh | exact absurd (.inr rfl) hsh | exact hk
    clear hk
    split at hk'
    · rename_i hij
      subst hij
      cases op <;> simp only at hk' <;> try (first | exact absurd (.inl rfl) hsh | exact absurd (.inr rfl) hsh | cases hk')
      case add => exact ⟨_, _, by simp [binOp, Op.intArith], .int (hw _), hk'⟩
      case sub => exact ⟨_, _, by simp [binOp, Op.intArith], .int (hw _), hk'⟩
      case mul => exact ⟨_, _, by simp [binOp, Op.intArith], .int (hw _), hk'⟩
      case quo =>
        obtain ⟨h0, hk'⟩ := chk_some hk'
        simp at h0
        exact ⟨_, _, by simp [binOp, Op.intDiv, h0], .int (hw _), hk'⟩
      case rem =>
        obtain ⟨h0, hk'⟩ := chk_some hk'
        simp at h0
        refine ⟨_, _, by simp [binOp, Op.intDiv, h0], .int ?_, hk'⟩
        unfold IntKind.has at ha ⊢
        have hmin : i.min ≤ 0 := by cases i <;> simp [IntKind.min, IntKind.signed, IntKind.bits]
        have hmax : 0 ≤ i.max := by cases i <;> simp [IntKind.max, IntKind.signed, IntKind.bits]
        have hb := tmod_bounds a b
        rcases Int.lt_or_le a 0 with hn | hn
        · have := hb.2 (by omega); omega
        · have := hb.1 hn; omega
      case and => exact ⟨_, _, by simp [binOp, Op.intBits], .int (hw _), hk'⟩
      case or => exact ⟨_, _, by simp [binOp, Op.intBits], .int (hw _), hk'⟩
      case xor => exact ⟨_, _, by simp [binOp, Op.intBits], .int (hw _), hk'⟩
      case eql => exact ⟨_, _, by simp [binOp, Op.intCmp], .bool _, hk'⟩
      case neq => exact ⟨_, _, by simp [binOp, Op.intCmp], .bool _, hk'⟩
      case lss => exact ⟨_, _, by simp [binOp, Op.intCmp], .bool _, hk'⟩
      case leq => exact ⟨_, _, by simp [binOp, Op.intCmp], .bool _, hk'⟩
      case gtr => exact ⟨_, _, by simp [binOp, Op.intCmp], .bool _, hk'⟩
      case geq => exact ⟨_, _, by simp [binOp, Op.intCmp], .bool _, hk'⟩
    · cases hk'
end
end Go.Yard
