/-
  FleetStale: for every input whose bulk is at most 1048576 the law returns true, and each argument reads behind the call as it read before; part 2 of 9 of the proof: an interpreter of the model's code over typed data, proved sound; the functions that the law reaches, printed as Lean functions and tied; the plain law. Own texts laid one behind the other.
-/
import Derived.Laws.StructEq
import Derived.WalkKit
import Derived.MapKept
import Derived.Laws.BytesString
import Derived.Laws.Cover4
import Derived.Laws.Rows
import Derived.Laws.MakeOwn
import Derived.Laws.Append
import Derived.Test.YtolnaonmpohciaaDoorFleetStaleB1
set_option linter.unusedSimpArgs false
set_option linter.unnecessarySimpa false
set_option linter.unusedVariables false
set_option linter.unusedSectionVars false
namespace Go.Yard
open Go.RowKit

def TD.Is (P : Program) (t : Nat) : TD → Prop
  | .bool => P.underlying t = some .bool
  | .int k => P.underlying t = some (.int k)
  | .string => P.underlying t = some .string
  | .ptr e => P.underlying t = some (.pointer e)
  | .slice e => P.underlying t = some (.slice e)
  | .arr n e => P.underlying t = some (.array n e)
  | .map k e => P.underlying t = some (.map k e)
  | .struct fs => ∃ F, P.underlying t = some (.struct F) ∧ F.toList.map (fun f => (f.offset, f.type)) = fs
  | .func => ∃ a b c, P.underlying t = some (.func a b c)
  | .iface => ∃ a, P.underlying t = some (.interface a)
  | .other => True

structure TOK (P : Program) (tt : TTab) : Prop where
  und : ∀ t, (tt.at t).d.Is P t
  info : ∀ t, tt.ok t = true → ∃ i z, P.info? t = some i ∧ i.size = (tt.at t).size ∧ i.bytes = (tt.at t).bytes ∧ i.zero = some z ∧ z.cells.size = i.size ∧
    ∀ (w : World) (h : Heap) (c : Cfg), RepL w h c (tt.at t).zero z.cells.toList
  eqs : ∀ t, ∀ (w : World) (h : Heap) (c : Cfg) (cs ds : List V) (xs ys : Array Value) (b : Bool), eqOk (tt.at t) cs ds = true → RepL w h c cs xs.toList → RepL w h c ds ys.toList →
    eqCells cs ds = some b → P.eqGuardType P.depth t = false ∧ (Op.equalIn 10000 t (.agg xs) (.agg ys)).run P w = .ok b w
  u8s : ∀ e, (tt.at e).ty = some (.int .u8) → e = lay0.u8
  blds : ∀ t, (tt.at t).bld = true → t = lay0.bld ∧ (tt.at t).zero = [.nilptr, .nilsl] ∧ tt.ok t = true
  ones : ∀ t, tt.ok t = true → ∀ i z, P.info? t = some i → i.zero = some z → z.oneCell' = !tt.isAgg t

section
variable {P : Program} {tt : TTab} {w : World}

theorem TOK.isAgg (T : TOK P tt) {t : Nat} (h : tt.ok t = true) : (isAgg t).run P w = .ok (tt.isAgg t) w := by
  have hu := T.und t
  unfold TTab.ok at h
  unfold TTab.isAgg
  cases hd : (tt.at t).d <;> rw [hd] at hu h <;> simp only [TD.Is] at hu
  case struct fs => obtain ⟨F, hF, _⟩ := hu; simp [Go.isAgg, run_underlying hF]
  case func => obtain ⟨a, b, c, hF⟩ := hu; simp [Go.isAgg, run_underlying hF]
  case iface => obtain ⟨a, hF⟩ := hu; simp [Go.isAgg, run_underlying hF]
  case other => cases h
  all_goals simp [Go.isAgg, run_underlying hu]

theorem TOK.sizeOf (T : TOK P tt) {t : Nat} (h : tt.ok t = true) : (sizeOf t).run P w = .ok (tt.at t).size w := by
  obtain ⟨i, z, hi, hs, _⟩ := T.info t h
  simp [Go.sizeOf, typeInfo, hi, hs]

theorem TOK.zero (T : TOK P tt) {t : Nat} (h : tt.ok t = true) : ∃ z, (zeroValue t).run P w = .ok z w ∧ z.cells.size = (tt.at t).size ∧
    ∀ (w : World) (h : Heap) (c : Cfg), RepL w h c (tt.at t).zero z.cells.toList := by
  obtain ⟨i, z, hi, hs, _, hz, hzs, hr⟩ := T.info t h
  exact ⟨z, by simp [Go.zeroValue, typeInfo, hi, hz], by omega, hr⟩

theorem und_of (T : TOK P tt) {t : Nat} {d : TD} (h : (tt.at t).d = d) : d.Is P t := h ▸ T.und t

theorem struct_field (T : TOK P tt) {t f off ty : Nat} {fs : List (Nat × Nat)} (h : (tt.at t).d = .struct fs) (hf : fs[f]? = some (off, ty)) :
    ∃ F fd, P.underlying t = some (.struct F) ∧ F[f]? = some fd ∧ fd.offset = off ∧ fd.type = ty := by
  obtain ⟨F, hF, e⟩ := und_of T h
  subst e
  rw [List.getElem?_map] at hf
  cases hx : F.toList[f]? with
  | none => rw [hx] at hf; cases hf
  | some fd =>
    rw [hx] at hf
    simp at hf
    exact ⟨F, fd, hF, by simpa using hx, hf.1, hf.2⟩

variable {h : Heap} {c : Cfg} {R : Type}

theorem partK_sound (T : TOK P tt) {t off : Nat} {cs : List V} {x : Array Value} (hr : RepL w h c cs x.toList) {k : V → Option R} {r : R} (hk : partK tt t cs off k = some r) :
    ∃ v v', (part t x off).run P w = .ok v' w ∧ Rep w h c v v' ∧ k v = some r := by
  unfold partK at hk
  split at hk
  · rename_i hok
    have hlen : cs.length = x.size := by have := hr.1; simpa using this
    split at hk
    · rename_i hagg
      split at hk
      · rename_i hsz
        refine ⟨_, .agg (x.extract off (off + (tt.at t).size)), ?_, ?_, hk⟩
        · simp [part, T.isAgg hok, hagg, T.sizeOf hok]
        · have hrep := (hr.drop off).take (tt.at t).size
          refine .agg ?_ fun j v d hv hd => hrep.2 j v d hv ?_
          · simp [hlen]; omega
          · simp only [Array.getElem?_extract] at hd
            rw [List.getElem?_take, List.getElem?_drop]
            split at hd
            · rename_i hj
              have hj' : j < (tt.at t).size := by omega
              simp only [hj', if_true]; simpa using hd
            · cases hd
      · cases hk
    · rename_i hagg
      split at hk
      · rename_i v hv
        have hlt : off < cs.length := (List.getElem?_eq_some_iff.1 hv).1
        have hx : x[off]? = some (x[off]'(by omega)) := Array.getElem?_eq_getElem (by omega)
        refine ⟨v, x[off]'(by omega), ?_, hr.2 off v _ hv (by simp), hk⟩
        simp [part, T.isAgg hok, hagg, hx]
      · cases hk
  · cases hk
end

section
variable {P : Program} {tt : TTab} {w : World} {h : Heap} {c : Cfg} {R : Type}

theorem has_wrap (k : IntKind) (n : Int) : k.has (k.wrap n) := by
  unfold IntKind.has
  cases k <;> simp only [IntKind.wrap, IntKind.min, IntKind.max, IntKind.signed, IntKind.bits] <;> simp <;> omega

theorem chk_some {b : Bool} {k : Option R} {r : R} (hk : chk b k = some r) : b = true ∧ k = some r := by
  unfold chk at hk; cases b <;> simp_all

theorem Rep.int_inv {k : IntKind} {n : Int} {v : Value} (r : Rep w h c (.int k n) v) : v = .int k n ∧ k.has n := by cases r; exact ⟨rfl, ‹_›⟩
theorem Rep.bool_inv {b : Bool} {v : Value} (r : Rep w h c (.bool b) v) : v = .bool b := by cases r; rfl
theorem Rep.str_inv {s : Str} {v : Value} (r : Rep w h c (.str s) v) : ∃ t, v = .string t ∧ t.data.toList = s ∧ t.size ≤ mx := by cases r; exact ⟨_, rfl, rfl, ‹_›⟩

theorem has_byte (n : Nat) (hn : n < 256) : IntKind.u8.has (n : Int) := by unfold IntKind.has; simp [IntKind.min, IntKind.max, IntKind.signed, IntKind.bits]; omega
theorem has_len (n : Nat) (hn : n ≤ mx) : IntKind.i64.has (n : Int) := by unfold IntKind.has; unfold mx at hn; simp [IntKind.min, IntKind.max, IntKind.signed, IntKind.bits]; omega

theorem ofConst1_rep (v : Value) : Rep w h c (ofConst1 v) v := by
  unfold ofConst1
  split
  · exact .bool _
  · split
    · rename_i hk; unfold inK at hk; simp at hk; exact .int hk
    · exact .undef _
  · split
    · exact .str ‹_›
    · exact .undef _
  · exact .nilptr
  · exact .nilsl
  · exact .nilfunc
  · exact .nilmap
  · exact .niliface
  · exact .undef _

theorem ofConst_rep (v : Value) : Rep w h c (ofConst v) v := by
  unfold ofConst
  split
  · refine .agg (by simp) fun j v d hv hd => ?_
    rw [List.getElem?_map, Array.getElem?_toList, hd] at hv
    cases hv
    exact ofConst1_rep d
  · exact ofConst1_rep v

theorem string_ext {a b : ByteArray} (h : a.data.toList = b.data.toList) : a = b := by
  obtain ⟨⟨x⟩⟩ := a; obtain ⟨⟨y⟩⟩ := b; simp at h; subst h; rfl
theorem toList_data (a : ByteArray) : a.toList = a.data.toList := ByteArray.toList_eq a
theorem size_data (a : ByteArray) : a.data.toList.length = a.size := by rw [Array.length_toList]; rfl
theorem rep_str {s : Str} (t : ByteArray) (e : t.data.toList = s) (hl : s.length ≤ mx) : Rep w h c (.str s) (.string t) := by
  subst e; rw [size_data] at hl; exact .str hl

theorem bytesLt_eq : ∀ a b : Str, Op.bytesLess a b = bytesLt a b
  | [], [] => rfl
  | [], _ :: _ => rfl
  | _ :: _, [] => rfl
  | a :: x, b :: y => by simp [Op.bytesLess, bytesLt, bytesLt_eq x y]

def Makes (P : Program) (w : World) (h : Heap) (c : Cfg) (s : Sem Value) (k : V → Option R) (r : R) : Prop := ∃ v v', s.run P w = .ok v' w ∧ Rep w h c v v' ∧ k v = some r

theorem tmod_bounds (a b : Int) : (0 ≤ a → 0 ≤ a.tmod b ∧ a.tmod b ≤ a) ∧ (a ≤ 0 → a ≤ a.tmod b ∧ a.tmod b ≤ 0) := by
  have key : ∀ m : Nat, ∀ b : Int, 0 ≤ (m : Int).tmod b ∧ (m : Int).tmod b ≤ m := fun m b => by
    cases b with
    | ofNat n =>
      have : ((m : Int).tmod (Int.ofNat n)) = ((m % n : Nat) : Int) := rfl
      have h := Nat.mod_le m n
      rw [this]; omega
    | negSucc n =>
      have : ((m : Int).tmod (Int.negSucc n)) = ((m % (n + 1) : Nat) : Int) := rfl
      have h := Nat.mod_le m (n + 1)
      rw [this]; omega
  constructor
  · intro h
    obtain ⟨m, rfl⟩ := Int.eq_ofNat_of_zero_le h
    exact key m b
  · intro h
    obtain ⟨m, hm⟩ := Int.eq_ofNat_of_zero_le (show 0 ≤ -a by omega)
    have e : a = -(m : Int) := by omega
    subst e
    rw [Int.neg_tmod]
    have := key m b
    omega

theorem binK_int {op : BinOp} {i j : IntKind} {a b : Int} (hb : j.has b) (t : TypeId) (x y : Operand) {k : V → Option R} {r : R} (hk : binK op (.int i a) (.int j b) k = some r) (ha : i.has a) :
    Makes P w h c (do eqGuard op t x y (.int i a) (.int j b); binOp op t (.int i a) (.int j b)) k r := by
  have hg : ∀ op : BinOp, (eqGuard op t x y (.int i a) (.int j b)).run P w = .ok () w := fun op => by cases op <;> simp [eqGuard]
  unfold Makes
  simp only [Sem.run_bind, hg, Result.andThen_ok]
  have hw := fun n => has_wrap i n
  by_cases hsh : op = .shl ∨ op = .shr
  · rcases hsh with rfl | rfl
    · simp only [binK] at hk
      obtain ⟨h0, hk⟩ := chk_some hk
      simp at h0
      exact ⟨_, _, by simp [binOp, Op.shift]; intro hn; omega, .int (hw _), hk⟩
    · simp only [binK] at hk
      obtain ⟨h0, hk⟩ := chk_some hk
      simp at h0
      refine ⟨_, _, by simp [binOp, Op.shift]; intro hn; omega, .int ?_, hk⟩
      have hp : (0 : Int) < 2 ^ (min b.toNat i.bits) := Int.pow_pos (by decide)
      have h1 : (1 : Int) ≤ 2 ^ (min b.toNat i.bits) := hp
      unfold IntKind.has at ha ⊢
      have hmin : i.min ≤ 0 := by cases i <;> simp [IntKind.min, IntKind.signed, IntKind.bits]
      have hmax : 0 ≤ i.max := by cases i <;> simp [IntKind.max, IntKind.signed, IntKind.bits]
      rw [Int.fdiv_eq_ediv_of_nonneg _ (Int.le_of_lt hp)]
      constructor
      · rcases Int.lt_or_le a 0 with hn | hn
        · have : a ≤ a / 2 ^ (min b.toNat i.bits) := by
            refine (Int.le_ediv_iff_mul_le hp).2 ?_
            have h2 := Int.mul_nonneg (show 0 ≤ -a by omega) (show 0 ≤ (2 : Int) ^ (min b.toNat i.bits) - 1 by omega)
            rw [Int.mul_sub, Int.neg_mul] at h2
            omega
          omega
        · have := Int.ediv_nonneg hn (Int.le_of_lt hp); omega
      · rcases Int.lt_or_le a 0 with hn | hn
        · have := Int.ediv_neg_of_neg_of_pos hn hp; omega
        · have := Int.ediv_le_self (2 ^ (min b.toNat i.bits)) hn; omega
  · have hk' : (if i = j then (match op with
        | .add => k (.int i (i.wrap (a + b)))
        | .sub => k (.int i (i.wrap (a - b)))
        | .mul => k (.int i (i.wrap (a * b)))
        | .quo => chk (!decide (b = 0)) (k (.int i (i.wrap (a.tdiv b))))
        | .rem => chk (!decide (b = 0)) (k (.int i (a.tmod b)))
        | .and => k (.int i (i.wrap (BitVec.ofInt i.bits a &&& BitVec.ofInt i.bits b).toNat))
        | .or => k (.int i (i.wrap (BitVec.ofInt i.bits a ||| BitVec.ofInt i.bits b).toNat))
        | .xor => k (.int i (i.wrap (BitVec.ofInt i.bits a ^^^ BitVec.ofInt i.bits b).toNat))
        | .eql => k (.bool (a == b))
        | .neq => k (.bool (a != b))
        | .lss => k (.bool (decide (a < b)))
        | .leq => k (.bool (decide (a ≤ b)))
        | .gtr => k (.bool (decide (a > b)))
        | .geq => k (.bool (decide (a ≥ b)))
        | _ => none) else none) = some r := by
      cases op <;> first | exact absurd (.inl rfl) hsh | exact absurd (.inr rfl) hsh | exact hk
    clear hk
    split at hk'
    · rename_i hij
      subst hij
      cases op <;> simp only at hk' <;> try (first | exact absurd (.inl rfl) hsh | exact absurd (.inr rfl) hsh | cases hk')
      case add => exact ⟨_, _, by simp [binOp, Op.intArith], .int (hw _), hk'⟩
      case sub => exact ⟨_, _, by simp [binOp, Op.intArith], .int (hw _), hk'⟩
      case mul => exact ⟨_, _, by simp [binOp, Op.intArith], .int (hw _), hk'⟩
      case quo =>
        obtain ⟨h0, hk'⟩ := chk_some hk'
        simp at h0
        exact ⟨_, _, by simp [binOp, Op.intDiv, h0], .int (hw _), hk'⟩
      case rem =>
        obtain ⟨h0, hk'⟩ := chk_some hk'
        simp at h0
        refine ⟨_, _, by simp [binOp, Op.intDiv, h0], .int ?_, hk'⟩
        unfold IntKind.has at ha ⊢
        have hmin : i.min ≤ 0 := by cases i <;> simp [IntKind.min, IntKind.signed, IntKind.bits]
        have hmax : 0 ≤ i.max := by cases i <;> simp [IntKind.max, IntKind.signed, IntKind.bits]
        have hb := tmod_bounds a b
        rcases Int.lt_or_le a 0 with hn | hn
        · have := hb.2 (by omega); omega
        · have := hb.1 hn; omega
      case and => exact ⟨_, _, by simp [binOp, Op.intBits], .int (hw _), hk'⟩
      case or => exact ⟨_, _, by simp [binOp, Op.intBits], .int (hw _), hk'⟩
      case xor => exact ⟨_, _, by simp [binOp, Op.intBits], .int (hw _), hk'⟩
      case eql => exact ⟨_, _, by simp [binOp, Op.intCmp], .bool _, hk'⟩
      case neq => exact ⟨_, _, by simp [binOp, Op.intCmp], .bool _, hk'⟩
      case lss => exact ⟨_, _, by simp [binOp, Op.intCmp], .bool _, hk'⟩
      case leq => exact ⟨_, _, by simp [binOp, Op.intCmp], .bool _, hk'⟩
      case gtr => exact ⟨_, _, by simp [binOp, Op.intCmp], .bool _, hk'⟩
      case geq => exact ⟨_, _, by simp [binOp, Op.intCmp], .bool _, hk'⟩
    · cases hk'
end

section
variable {P : Program} {tt : TTab} {w : World} {h : Heap} {c : Cfg} {R : Type}

theorem beq_data (a b : ByteArray) : (a.toList == b.toList) = (a.data.toList == b.data.toList) := by rw [toList_data, toList_data]

theorem size_append (a b : ByteArray) : (a ++ b).size = a.size + b.size := ByteArray.size_append

theorem binK_str {op : BinOp} {a b : ByteArray} (t : TypeId) (x y : Operand) {k : V → Option R} {r : R}
    (hk : binK op (.str a.data.toList) (.str b.data.toList) k = some r) :
    Makes P w h c (do eqGuard op t x y (.string a) (.string b); binOp op t (.string a) (.string b)) k r := by
  have hg : ∀ op : BinOp, (eqGuard op t x y (.string a) (.string b)).run P w = .ok () w := fun op => by cases op <;> simp [eqGuard]
  have he : (a.toList == b.toList) = (a.data.toList == b.data.toList) := beq_data a b
  have hl : Op.bytesLess a.toList b.toList = bytesLt a.data.toList b.data.toList := by rw [toList_data, toList_data, bytesLt_eq]
  unfold Makes
  simp only [Sem.run_bind, hg, Result.andThen_ok]
  cases op <;> simp only [binK] at hk <;> try (first | cases hk)
  case add =>
    obtain ⟨h0, hk⟩ := chk_some hk
    simp at h0
    refine ⟨_, .string (a ++ b), ?_, rep_str (a ++ b) (by simp) (by simp; exact h0), hk⟩
    have : ¬ (((a.size + b.size : Nat) : Int) > IntKind.i64.max) := by
      have e : IntKind.i64.max = 9223372036854775807 := by decide
      rw [e]; omega
    simp only [binOp, Op.stringOp]
    rw [if_neg this]; rfl
  case eql => exact ⟨_, .bool _, by simp only [binOp, Op.stringOp, he]; rfl, .bool _, hk⟩
  case neq => exact ⟨_, .bool _, by simp only [binOp, Op.stringOp, he]; rfl, .bool _, hk⟩
  case lss => exact ⟨_, .bool _, by simp only [binOp, Op.stringOp, hl]; rfl, .bool _, hk⟩
  case leq => exact ⟨_, .bool _, by simp only [binOp, Op.stringOp, hl, he]; rfl, .bool _, hk⟩
  case gtr => exact ⟨_, .bool _, by simp only [binOp, Op.stringOp, hl, he]; rfl, .bool _, hk⟩
  case geq => exact ⟨_, .bool _, by simp only [binOp, Op.stringOp, hl]; rfl, .bool _, hk⟩

theorem binK_bool (T : TOK P tt) {op : BinOp} {a b : Bool} {t : TypeId} (ht : (tt.at t).d = .bool) (x y : Operand) {k : V → Option R} {r : R}
    (hk : binK op (.bool a) (.bool b) k = some r) : Makes P w h c (do eqGuard op t x y (.bool a) (.bool b); binOp op t (.bool a) (.bool b)) k r := by
  have hu : P.underlying t = some .bool := und_of T ht
  have hg : ∀ op : BinOp, (eqGuard op t x y (.bool a) (.bool b)).run P w = .ok () w := fun op => by cases op <;> simp [eqGuard]
  have hq := run_equalIn_bool w 9999 t a b hu
  unfold Makes
  simp only [Sem.run_bind, hg, Result.andThen_ok]
  cases op <;> simp only [binK, eqV] at hk <;> try (first | cases hk)
  case eql => exact ⟨_, .bool (a == b), by simp [binOp, Op.equal, Op.maxDepth, hq], .bool _, hk⟩
  case neq => exact ⟨_, .bool (!(a == b)), by simp [binOp, Op.equal, Op.maxDepth, hq], .bool _, hk⟩

theorem binK_agg (T : TOK P tt) {op : BinOp} {cs ds : List V} {xs ys : Array Value} {t : TypeId} (ht : eqOk (tt.at t) cs ds = true) (rx : RepL w h c cs xs.toList) (ry : RepL w h c ds ys.toList)
    (x y : Operand) {k : V → Option R} {r : R} (hk : binK op (.agg cs) (.agg ds) k = some r) :
    Makes P w h c (do eqGuard op t x y (.agg xs) (.agg ys); binOp op t (.agg xs) (.agg ys)) k r := by
  cases op <;> simp only [binK, eqV] at hk <;> try (first | cases hk)
  all_goals
    split at hk
    · rename_i b hb
      obtain ⟨hg, hq⟩ := T.eqs t w h c cs ds xs ys b ht rx ry hb
      have hg' := fun op => run_eqGuard_agg (P := P) (w := w) op t x y xs ys hg
      unfold Makes
      simp only [Sem.run_bind, hg', Result.andThen_ok]
      first
        | exact ⟨_, .bool b, by simp only [binOp]; unfold Op.equal Op.maxDepth; simp [hq], .bool _, hk⟩
        | exact ⟨_, .bool (!b), by simp only [binOp]; unfold Op.equal Op.maxDepth; simp [hq], .bool _, hk⟩
    · cases hk

theorem run_equalIn_ptrnil (d : Nat) (t e : TypeId) (q : Option Addr) (hu : P.underlying t = some (.pointer e)) :
    (Op.equalIn (d + 1) t (.pointer q) (.pointer none)).run P w = .ok q.isNone w := by
  cases q <;> simp [Op.equalIn, run_underlying hu]

theorem run_equal_ptrnil (t e : TypeId) (q : Option Addr) (hu : P.underlying t = some (.pointer e)) :
    (Op.equal t (.pointer q) (.pointer none)).run P w = .ok q.isNone w := run_equalIn_ptrnil 9999 t e q hu

theorem ptrK_sound (T : TOK P tt) {op : BinOp} {a b : V} {u v : Value} {t e : TypeId} (ht : (tt.at t).d = .ptr e) (ra : Rep w h c a u) (rb : Rep w h c b v) (x y : Operand)
    {k : V → Option R} {r : R} (hk : ptrK op a b k = some r) : Makes P w h c (do eqGuard op t x y u v; binOp op t u v) k r := by
  have hu : P.underlying t = some (.pointer e) := und_of T ht
  unfold ptrK at hk
  split at hk
  · cases rb
    have key : ∀ r, isNilV a = some r → ∃ q : Option Addr, u = .pointer q ∧ r = q.isNone := by
      intro r hr
      unfold isNilV at hr
      split at hr <;> try cases hr
      · cases ra; exact ⟨none, rfl, rfl⟩
      · cases ra with | ptr _ hv => obtain ⟨b, hv, _⟩ := hv; exact ⟨_, hv, rfl⟩
      · cases ra; exact ⟨_, rfl, rfl⟩
      · cases ra with | rptr _ hv => obtain ⟨b, hv, _⟩ := hv; exact ⟨_, hv, rfl⟩
    split at hk
    · rename_i q hq
      obtain ⟨q, rfl, rfl⟩ := key _ hq
      refine ⟨_, .bool q.isNone, ?_, .bool _, hk⟩
      have hq := run_equal_ptrnil (w := w) t e q hu
      cases q <;> simp [eqGuard, binOp, hq]
    · rename_i q hq
      obtain ⟨q, rfl, rfl⟩ := key _ hq
      refine ⟨_, .bool (!q.isNone), ?_, .bool _, hk⟩
      have hq := run_equal_ptrnil (w := w) t e q hu
      cases q <;> simp [eqGuard, binOp, hq]
    · cases hk
  · cases hk

theorem Rep.ifi_inv {t : Nat} {k : IntKind} {n : Int} {v : Value} (r : Rep w h c (.ifi t k n) v) : v = .iface t (.int k n) ∧ k.has n := by cases r; exact ⟨rfl, ‹_›⟩

theorem ifK_sound (T : TOK P tt) {op : BinOp} {a b : V} {u v : Value} {t : TypeId} (ht : (tt.at t).d = .iface) (ra : Rep w h c a u) (rb : Rep w h c b v) (x y : Operand)
    {k : V → Option R} {r : R} (hk : ifK op y a b k = some r) : Makes P w h c (do eqGuard op t x y u v; binOp op t u v) k r := by
  obtain ⟨ms, hu⟩ := und_of T ht
  have hq : ∀ (d : Nat) (u : Value), (u = .nilIface ∨ ∃ t x, u = .iface t x) → (Op.equalIn (d + 1) t u .nilIface).run P w = .ok (match u with | .nilIface => true | _ => false) w := by
    rintro d u (rfl | ⟨t', x', rfl⟩) <;> simp [Op.equalIn, run_underlying hu]
  have hq1 := hq 9999 .nilIface (.inl rfl)
  unfold ifK at hk
  split at hk <;> try (first | cases hk)
  · cases ra; cases rb
    refine ⟨_, .bool true, ?_, .bool _, hk⟩
    simp [eqGuard, binOp, Op.equal, Op.maxDepth, hq1]
  · cases ra; cases rb
    refine ⟨_, .bool false, ?_, .bool _, hk⟩
    simp [eqGuard, binOp, Op.equal, Op.maxDepth, hq1]
  · cases ra with
    | iface t' v' =>
      cases rb
      have hq2 := hq 9999 (.iface t' v') (.inr ⟨_, _, rfl⟩)
      refine ⟨_, .bool false, ?_, .bool _, hk⟩
      simp [eqGuard, binOp, Op.equal, Op.maxDepth, hq2]
  · cases ra with
    | iface t' v' =>
      cases rb
      have hq2 := hq 9999 (.iface t' v') (.inr ⟨_, _, rfl⟩)
      refine ⟨_, .bool true, ?_, .bool _, hk⟩
      simp [eqGuard, binOp, Op.equal, Op.maxDepth, hq2]
  · obtain ⟨rfl, _⟩ := ra.ifi_inv
    cases rb
    refine ⟨_, .bool false, ?_, .bool _, hk⟩
    simp [eqGuard, binOp, Op.equal, Op.maxDepth, hq 9999 (.iface _ (.int _ _)) (.inr ⟨_, _, rfl⟩)]
  · obtain ⟨rfl, _⟩ := ra.ifi_inv
    cases rb
    refine ⟨_, .bool true, ?_, .bool _, hk⟩
    simp [eqGuard, binOp, Op.equal, Op.maxDepth, hq 9999 (.iface _ (.int _ _)) (.inr ⟨_, _, rfl⟩)]

theorem Ty.sz_pos' (T : Ty) : 0 < T.sz := by cases T <;> simp [Ty.sz]

theorem run_equalIn_slnil (d : Nat) (t e : TypeId) (A : Option Addr) (n cap : Nat) (hu : P.underlying t = some (.slice e)) :
    (Op.equalIn (d + 1) t (.slice A n cap) (.slice none 0 0)).run P w = .ok A.isNone w := by
  cases A <;> simp [Op.equalIn, run_underlying hu]

theorem slK_sound (T : TOK P tt) {op : BinOp} {a b : V} {u v : Value} {t e : TypeId} (ht : (tt.at t).d = .slice e) (ra : Rep w h c a u) (rb : Rep w h c b v) (x y : Operand)
    {k : V → Option R} {r : R} (hk : slK op a b k = some r) : Makes P w h c (do eqGuard op t x y u v; binOp op t u v) k r := by
  have hu : P.underlying t = some (.slice e) := und_of T ht
  unfold slK at hk
  split at hk
  · cases rb
    have key : ∀ (neg : Bool) (k : V → Option R), nilOf a (fun r => k (nilAns neg r)) = some r → ∃ A n cap, u = .slice A n cap ∧ ∃ z, Rep w h c z (.bool (bif neg then !A.isNone else A.isNone)) ∧ k z = some r := by
      intro neg k hk
      unfold nilOf at hk
      split at hk <;> try cases hk
      · cases ra; exact ⟨none, 0, 0, rfl, .bool (bif neg then false else true), by cases neg <;> exact .bool _, by cases neg <;> exact hk⟩
      · rename_i T l tk _
        cases ra with
        | @sl _ _ _ A cap f hcap hmx hc hr hnil hown =>
          refine ⟨A, _, cap, rfl, ?_⟩
          cases hl : l.isEmpty with
          | true => rw [hl] at hk; exact ⟨.anyb, .anyb _, hk⟩
          | false =>
            rw [hl] at hk
            have hpos : 0 < l.length := List.length_pos_iff.2 (by intro e; rw [e] at hl; cases hl)
            obtain ⟨b, o, rfl, _⟩ := hc 0 0 hpos (Ty.sz_pos' T)
            exact ⟨_, .bool _, hk⟩
      · rename_i i n _
        cases ra with
        | row hi hn hv =>
          obtain ⟨A, cap, rfl, ⟨_, _, hA⟩, _⟩ := hv
          refine ⟨A, n, cap, rfl, ?_⟩
          cases hl : decide (n = 0) with
          | true => rw [hl] at hk; exact ⟨.anyb, .anyb _, hk⟩
          | false =>
            rw [hl] at hk
            obtain ⟨q, rfl⟩ := hA (Nat.pos_of_ne_zero (by simpa using hl))
            exact ⟨_, .bool _, hk⟩
    split at hk
    · obtain ⟨A, n, cap, rfl, z, rz, hk⟩ := key false k hk
      refine ⟨_, .bool A.isNone, ?_, rz, hk⟩
      have hq := run_equalIn_slnil (w := w) 9999 t e A n cap hu
      simp [eqGuard, binOp, Op.equal, Op.maxDepth, hq]
    · obtain ⟨A, n, cap, rfl, z, rz, hk⟩ := key true k hk
      refine ⟨_, .bool (!A.isNone), ?_, rz, hk⟩
      have hq := run_equalIn_slnil (w := w) 9999 t e A n cap hu
      simp [eqGuard, binOp, Op.equal, Op.maxDepth, hq]
    · cases hk
  · cases hk
end

section
variable {P : Program} {tt : TTab} {w : World} {h : Heap} {c : Cfg} {R : Type}

theorem one_cell {v : V} {d : Value} (r : Rep w h c v d) (h1 : v.one = true) : d.oneCell' = true ∧ d.cells = #[d] := by
  cases r <;> simp_all [V.one, Value.oneCell', Value.cells]
  case ptr hi hv => obtain ⟨b, rfl, _⟩ := hv; simp
  case rptr hi hv => obtain ⟨b, rfl, _⟩ := hv; simp
  case row hi _ hv => obtain ⟨A, cap, rfl, _, _⟩ := hv; simp
  case rview hi _ hv => obtain ⟨A, cap, rfl, _, _⟩ := hv; simp
  case map hi hv => obtain ⟨b, rfl, _⟩ := hv; simp

def Ones (ds : List Value) : Prop := ∀ d ∈ ds, d.oneCell' = true

theorem ones_of {cs : List V} {ds : List Value} (r : RepL w h c cs ds) (h1 : cs.all V.one = true) : Ones ds := by
  intro d hd
  obtain ⟨j, hj, rfl⟩ := List.mem_iff_getElem.1 hd
  have hj' : j < cs.length := by have := r.1; omega
  have := r.2 j cs[j] ds[j] (List.getElem?_eq_getElem hj') (List.getElem?_eq_getElem hj)
  exact (one_cell this (by simpa using List.all_eq_true.1 h1 _ (List.getElem_mem hj'))).1

theorem flatK_sound {v : V} {d : Value} (r : Rep w h c v d) {cs : List V} (hf : flatK v = some cs) : RepL w h c cs d.cells.toList ∧ Ones d.cells.toList ∧ cs.all V.one = true := by
  unfold flatK at hf
  split at hf
  · split at hf
    · rename_i hall
      cases hf
      cases r with
      | @agg _ x hl hr =>
        have hr' : RepL w h c cs x.toList := ⟨by rw [hl, Array.length_toList], fun j v d hv hd => hr j v d hv (by simpa using hd)⟩
        exact ⟨hr', ones_of hr' hall, hall⟩
    · cases hf
  · split at hf
    · rename_i h1
      cases hf
      obtain ⟨ho, hc⟩ := one_cell r h1
      rw [hc]
      refine ⟨.cons r .nil, fun d' hd => ?_, by simp [h1]⟩
      simp at hd; subst hd; exact ho
    · cases hf

theorem setAll (xs : List Value) : ∀ (k off : Nat) (a : Array Value), off + k + xs.length ≤ a.size →
    ((xs.zipIdx k).foldl (fun cs (p : Value × Nat) => cs.setIfInBounds (off + p.2) p.1) a).toList = a.toList.take (off + k) ++ xs ++ a.toList.drop (off + k + xs.length) := by
  induction xs with
  | nil => intro k off a hs; simp
  | cons x xs ih =>
    intro k off a hs
    simp only [List.length_cons] at hs
    simp only [List.zipIdx_cons, List.foldl_cons]
    rw [ih (k + 1) off _ (by simp; omega)]
    simp only [Array.toList_setIfInBounds]
    have hlt : off + k < a.toList.length := by simp; omega
    apply List.ext_getElem?
    intro i
    simp only [List.getElem?_append, List.length_take, List.length_set, List.getElem?_take, List.getElem?_drop, List.getElem?_set, List.length_cons, List.length_append, List.getElem?_cons]
    simp only [Array.length_toList] at hlt ⊢
    by_cases h1 : i < off + k
    · have e1 : off + k ≠ i := by omega
      have e2 : i < off + (k + 1) := by omega
      have e3 : i < min (off + (k + 1)) a.size := by omega
      have e4 : i < min (off + k) a.size := by omega
      have e5 : i < min (off + (k + 1)) a.size + xs.length := by omega
      have e6 : i < min (off + k) a.size + (xs.length + 1) := by omega
      simp [h1, e1, e2, e3, e4, e5, e6]
    · by_cases h2 : i = off + k
      · subst h2
        have m1 : min (off + (k + 1)) a.size = off + k + 1 := by omega
        have m2 : min (off + k) a.size = off + k := by omega
        have e2 : off + k < off + (k + 1) := by omega
        have e3 : off + k < a.size := by omega
        rw [m1, m2]
        simp [e2, e3]
        intro h7; omega
      · have m1 : min (off + (k + 1)) a.size = off + k + 1 := by omega
        have m2 : min (off + k) a.size = off + k := by omega
        rw [m1, m2]
        by_cases h3 : i < off + k + 1 + xs.length
        · have e1 : ¬ i < off + k + 1 := by omega
          have e2 : ¬ i < off + k := by omega
          have e4 : i < off + k + (xs.length + 1) := by omega
          have e5 : ¬ (i - (off + k) = 0) := by omega
          have e6 : i - (off + k) - 1 = i - (off + k + 1) := by omega
          simp [h3, e1, e2, e4, e5, e6]
        · have e1 : ¬ i < off + k + 1 := by omega
          have e4 : ¬ i < off + k + (xs.length + 1) := by omega
          have e8 : off + (k + 1) + xs.length + (i - (off + k + 1 + xs.length)) = off + k + (xs.length + 1) + (i - (off + k + (xs.length + 1))) := by omega
          simp [h3, e4, e8]
          intro hh; omega

theorem putCells (cells : Array Value) (d : Value) (off : Nat) (hs : off + d.cells.size ≤ cells.size) :
    (d.cells.zipIdx.foldl (fun cs (p : Value × Nat) => cs.setIfInBounds (off + p.2) p.1) cells).toList = cells.toList.take off ++ d.cells.toList ++ cells.toList.drop (off + d.cells.size) := by
  have h := setAll d.cells.toList 0 off cells (by simpa using hs)
  simp only [Nat.add_zero, Array.length_toList] at h
  rw [← h, ← Array.foldl_toList, Array.toList_zipIdx]

theorem RepL.len {cs : List V} {ds : List Value} (r : RepL w h c cs ds) : cs.length = ds.length := r.1

theorem fill_sound (place : Nat → Option (Nat × Nat)) : ∀ (parts : List (Nat × V)) (parts' : List (Nat × Value)) (cs : List V) (cells : Array Value) (out : List V),
    (parts.map Prod.fst = parts'.map Prod.fst) → RepL w h c (parts.map Prod.snd) (parts'.map Prod.snd) → RepL w h c cs cells.toList →
    fillV cs (parts.map fun p => (((place p.1).getD (0, 1000000)).1, ((place p.1).getD (0, 1000000)).2, p.2)) = some out → cells.size < 1000000 →
    ∃ out', Instr.fill place cells parts' = some out' ∧ RepL w h c out out'.toList ∧ out'.size = cells.size
  | [], parts', cs, cells, out, he, _, rc, hf, _ => by
    cases parts' with
    | nil => simp [fillV] at hf; subst hf; exact ⟨cells, rfl, rc, rfl⟩
    | cons p ps => simp at he
  | (i, v) :: parts, parts', cs, cells, out, he, rp, rc, hf, hno => by
    cases parts' with
    | nil => simp at he
    | cons p ps =>
      obtain ⟨i', d⟩ := p
      simp only [List.map_cons, List.cons.injEq] at he
      obtain ⟨rfl, he⟩ := he
      simp only [List.map_cons] at rp hf
      simp only [fillV] at hf
      split at hf
      · rename_i vs hvs
        split at hf
        · rename_i hcond
          simp only [Bool.and_eq_true, decide_eq_true_eq] at hcond
          obtain ⟨hlen, hsz⟩ := hcond
          obtain ⟨rv, _, _⟩ := flatK_sound rp.head hvs
          have hl1 := rv.len
          have hl2 := rc.len
          simp only [Array.length_toList] at hl1 hl2
          cases hpl : place i with
          | none =>
            rw [hpl] at hsz
            simp at hsz; omega
          | some q =>
            obtain ⟨off, size⟩ := q
            simp only [hpl, Option.getD_some] at hlen hsz hf
            have hcells := putCells cells d off (by omega)
            have hrep : RepL w h c (cs.take off ++ vs ++ cs.drop (off + size)) (d.cells.zipIdx.foldl (fun cs (p : Value × Nat) => cs.setIfInBounds (off + p.2) p.1) cells).toList := by
              rw [hcells]
              have hd : d.cells.size = size := by omega
              rw [hd]
              exact ((rc.take off).append rv).append (rc.drop _)
            obtain ⟨out', h1, h2, h3⟩ := fill_sound place parts ps _ _ out he rp.tail hrep hf (by rw [← Array.length_toList, hcells]; simp; omega)
            refine ⟨out', ?_, h2, ?_⟩
            · simp only [Instr.fill, hpl]
              rw [if_neg]
              · exact h1
              · simp; omega
            · rw [h3, ← Array.length_toList, hcells]; simp; omega
        · cases hf
      · cases hf
end

section
variable {P : Program} {tt : TTab} {w : World} {h : Heap} {c : Cfg} {R : Type}

theorem add_off (b o n : Nat) : (⟨b, o, none⟩ : Addr).add n = ⟨b, o + n, none⟩ := by unfold Addr.add; split <;> simp_all

theorem cut_rep {T : Ty} {l : List T.den} {t : Tok} {A : Option Addr} {n cap : Nat} (r : Rep w h c (.sl T l t) (.slice A n cap)) (lo hi : Nat) (h1 : lo ≤ hi) (h2 : hi ≤ l.length) :
    Rep w h c (.sl T ((l.drop lo).take (hi - lo)) .no) (.slice (if cap = lo then A else A.map (·.add (lo * T.sz))) (hi - lo) (cap - lo)) := by
  cases r with
  | sl f hcap hmx hc hr hnil hown =>
    have hlen : ((l.drop lo).take (hi - lo)).length = hi - lo := by simp; omega
    have key := Rep.sl (w := w) (h := h) (c := c) (T := T) (l := (l.drop lo).take (hi - lo)) (t := .no) (A := if cap = lo then A else A.map (·.add (lo * T.sz))) (cap := cap - lo)
      (fun i j => f (lo + i) j) (by omega) (by omega) ?_ ?_ (by simp) (by simp)
    · rw [hlen] at key; exact key
    · intro i j hi' hj
      rw [hlen] at hi'
      obtain ⟨b, o, hA, hcell, hown'⟩ := hc (lo + i) j (by omega) hj
      rw [if_neg (by omega)]
      refine ⟨b, o + lo * T.sz, by rw [hA]; simp [add_off], ?_⟩
      have e : o + lo * T.sz + i * T.sz + j = o + (lo + i) * T.sz + j := by rw [Nat.add_mul]; omega
      rw [e]
      exact ⟨hcell, hown'⟩
    · intro i j x v hx hv
      rw [List.getElem?_take, List.getElem?_drop] at hx
      split at hx
      · exact hr _ j x v hx hv
      · cases hx

theorem sl_inv {T : Ty} {l : List T.den} {t : Tok} {v : Value} (r : Rep w h c (.sl T l t) v) : ∃ A cap, v = .slice A l.length cap ∧ l.length ≤ cap ∧ cap ≤ mx := by
  cases r with
  | sl f hcap hmx hc hr hnil hown => exact ⟨_, _, rfl, hcap, hmx⟩

theorem Ty.sz_pos (T : Ty) : 0 < T.sz := by cases T <;> simp [Ty.sz]
theorem Ty.cells_len (T : Ty) (x : T.den) : (T.cells x).length = T.sz := by cases T <;> rfl

theorem optI_some {v : Option V} {v' : Option Value} (hv : match v, v' with | none, none => True | some a, some b => Rep w h c a b | _, _ => False) {d : Int} {k : Int → Option R} {r : R}
    (hk : optI v d k = some r) : ∃ n, k n = some r ∧ ((v' = none ∧ n = d) ∨ ∃ i, v' = some (.int i n)) := by
  unfold optI at hk
  split at hk
  · split at hv <;> simp_all
  · rename_i i n
    cases v' with
    | none => exact hv.elim
    | some b => exact ⟨n, hk, .inr ⟨_, by rw [(show Rep w h c (.int i n) b from hv).int_inv.1]⟩⟩
  · cases hk

theorem map_opt {ρ : Operand → V} {ρ' : Operand → Value} (hρ : ∀ x, Rep w h c (ρ x) (ρ' x)) (o : Option Operand) :
    match o.map ρ, o.map ρ' with | none, none => True | some a, some b => Rep w h c a b | _, _ => False := by
  cases o <;> simp [hρ]

theorem run_sliceBounds (isSlice : Bool) (len cap : Nat) (lo hi : Option Value) (l hh : Int) (hlo : (lo = none ∧ l = 0) ∨ ∃ k, lo = some (.int k l))
    (hhi : (hi = none ∧ hh = len) ∨ ∃ k, hi = some (.int k hh)) (h0 : 0 ≤ l) (h1 : l ≤ hh) (h2 : hh ≤ cap) :
    (Instr.sliceBounds isSlice len cap lo hi none).run P w = .ok (l.toNat, hh.toNat, cap) w := by
  have hb : ∀ (k : IntKind) (n : Int) (y : Nat) (code : BoundsCode), 0 ≤ n → n ≤ y → (Instr.sliceBound (.int k n) y code).run P w = .ok n.toNat w := by
    intro k n y code h0 h1
    simp [Instr.sliceBound, asIntOf, h0, h1]
  rcases hlo with ⟨rfl, rfl⟩ | ⟨k, rfl⟩ <;> rcases hhi with ⟨rfl, rfl⟩ | ⟨k', rfl⟩
  · simp [Instr.sliceBounds]
  · simp [Instr.sliceBounds, hb _ _ _ _ (show 0 ≤ hh by omega) h2]
  · simp [Instr.sliceBounds, hb _ _ _ _ h0 h1]
  · simp only [Instr.sliceBounds]
    have e : ((hh.toNat : Nat) : Int) = hh := by omega
    simp [hb _ _ _ _ (show 0 ≤ hh by omega) h2, hb k l hh.toNat .sliceB h0 (by omega)]

theorem idxOf_some {v : V} {d : Value} (r0 : Rep w h c v d) {k : Int → Option R} {r : R} (hk : idxOf v k = some r) : ∃ i n, d = .int i n ∧ k n = some r := by
  unfold idxOf at hk
  split at hk
  · exact ⟨_, _, r0.int_inv.1, hk⟩
  · cases hk

theorem indexAddr_sound (T : TOK P tt) {t : Nat} {a i : V} {a' i' : Value} (ra : Rep w h c a a') (ri : Rep w h c i i') {k : V → Option R} {r : R}
    (hk : (idxOf i fun n =>
      match (generalizing := false) (tt.at t).d, a with
      | .slice e, .sl T l _ => if T.sz = (tt.at e).size && tt.ok e then chk (decide (0 ≤ n) && decide (n < l.length)) (k (.iptr (T.cells (l.getD n.toNat T.dflt)))) else none
      | .slice e, .row id m => if tt.ok e then chk (decide (0 ≤ n) && decide (n < m)) (k (.rptr id (tt.at e).size n.toNat 0)) else none
      | .arr m e, .ptr id o => if tt.ok e then chk (decide (0 ≤ n) && decide (n < m)) (k (.ptr id (o + n.toNat * (tt.at e).size))) else none
      | .slice e, .vsl m cs => if tt.ok e && decide ((tt.at e).size ≠ 0) && decide (cs.length = m * (tt.at e).size) then chk (decide (0 ≤ n) && decide (n < m)) (k (.iptr (cs.drop (n.toNat * (tt.at e).size)))) else none
      | .arr m e, .iptr cs => if tt.ok e && decide ((tt.at e).size ≠ 0) && decide (m * (tt.at e).size ≤ cs.length) then chk (decide (0 ≤ n) && decide (n < m)) (k (.iptr (cs.drop (n.toNat * (tt.at e).size)))) else none
      | _, _ => none) = some r) : Makes P w h c (Instr.indexAt t a' i') k r := by
  obtain ⟨ik, n, rfl, hk2⟩ := idxOf_some ri hk
  clear hk
  split at hk2
  · rename_i e T' l tk hd
    split at hk2
    · rename_i hcond
      simp only [Bool.and_eq_true, decide_eq_true_eq] at hcond
      obtain ⟨hsz, hok⟩ := hcond
      obtain ⟨hb, hk⟩ := chk_some hk2
      simp only [Bool.and_eq_true, decide_eq_true_eq] at hb
      have hu : P.underlying t = some (.slice e) := und_of T hd
      have hsz' := T.sizeOf (w := w) hok
      cases ra with
      | @sl _ _ _ A cap f hcap hmx hc hr hnil hown =>
        have hnl : n.toNat < l.length := by omega
        have hxd : l.getD n.toNat T'.dflt = l[n.toNat] := by simp [List.getD, List.getElem?_eq_getElem hnl]
        have hx : l[n.toNat]? = some l[n.toNat] := List.getElem?_eq_getElem hnl
        obtain ⟨b, o, rfl, _, _⟩ := hc n.toNat 0 hnl T'.sz_pos
        refine ⟨_, .pointer (some ⟨b, o + n.toNat * T'.sz, none⟩), ?_, ?_, hk⟩
        · simp [Instr.indexAt, asIntOf, run_underlying hu, hb.1, hb.2, hsz', ← hsz, add_off]
        · refine .iptr (fun j => f n.toNat j) (fun j hj => ?_) (fun j v hv => hr n.toNat j _ v hx (by rw [hxd] at hv; exact hv))
          rw [Ty.cells_len] at hj
          obtain ⟨b', o', e', h1, h2⟩ := hc n.toNat j hnl hj
          cases e'
          exact ⟨h1, h2⟩
    · cases hk2
  · rename_i e id m hd
    split at hk2
    · rename_i hok
      obtain ⟨hb, hk⟩ := chk_some hk2
      simp only [Bool.and_eq_true, decide_eq_true_eq] at hb
      have hu : P.underlying t = some (.slice e) := und_of T hd
      have hsz' := T.sizeOf (w := w) hok
      cases ra with
      | row hi _ hv =>
        obtain ⟨A, cap, rfl, ⟨_, _, hA⟩, hv⟩ := hv
        obtain ⟨a, rfl⟩ := hA (by omega)
        refine ⟨_, .pointer (some (a.add (n.toNat * (tt.at e).size))), ?_, ?_, hk⟩
        · simp [Instr.indexAt, asIntOf, run_underlying hu, hb.1, hb.2, hsz']
        · refine .rptr hi ⟨_, rfl, fun T' l' he hsz hj => ?_⟩
          obtain ⟨_, _, _, h3⟩ := hv T' l' he
          rcases h3 with ⟨_, h3, _⟩ | ⟨b, arr, el, fz, g1, g2, _, _⟩
          · cases h3
          · cases g2
            exact ⟨b, g1, by rw [hsz, add_off]; rfl⟩
    · cases hk2
  · rename_i m e id o hd
    split at hk2
    · rename_i hok
      obtain ⟨hb, hk⟩ := chk_some hk2
      simp only [Bool.and_eq_true, decide_eq_true_eq] at hb
      have hu : P.underlying t = some (.array m e) := und_of T hd
      have hsz' := T.sizeOf (w := w) hok
      cases ra with
      | ptr hi hv =>
        obtain ⟨b, rfl, hv⟩ := hv
        refine ⟨_, .pointer (some (Addr.add ⟨b, o, none⟩ (n.toNat * (tt.at e).size))), ?_, ?_, hk⟩
        · simp [Instr.indexAt, asIntOf, run_underlying hu, hb.1, hb.2, hsz', Instr.sureAddr]
        · exact .ptr hi ⟨b, by rw [add_off], hv⟩
    · cases hk2
  · rename_i e m cs hd
    split at hk2
    · rename_i hcond
      simp only [Bool.and_eq_true, decide_eq_true_eq] at hcond
      obtain ⟨⟨hok, h0⟩, hlen⟩ := hcond
      obtain ⟨hb, hk⟩ := chk_some hk2
      simp only [Bool.and_eq_true, decide_eq_true_eq] at hb
      have hu : P.underlying t = some (.slice e) := und_of T hd
      have hsz' := T.sizeOf (w := w) hok
      have hlt : n.toNat * (tt.at e).size + (tt.at e).size ≤ cs.length := by
        rw [hlen, ← Nat.succ_mul]
        exact Nat.mul_le_mul_right _ (by omega)
      cases ra with
      | @vsl _ sz _ A hn hmx f hc hr =>
        obtain ⟨b, o, rfl, _, _⟩ := hc (n.toNat * (tt.at e).size) (by omega)
        refine ⟨_, .pointer (some ⟨b, o + n.toNat * (tt.at e).size, none⟩), ?_, ?_, hk⟩
        · simp [Instr.indexAt, asIntOf, run_underlying hu, hb.1, hb.2, hsz', add_off]
        · refine .iptr (fun j => f (n.toNat * (tt.at e).size + j)) (fun j hj => ?_) (fun j v hv => hr _ v (by rw [List.getElem?_drop] at hv; exact hv))
          rw [List.length_drop] at hj
          obtain ⟨b', o', e', h1, h2⟩ := hc (n.toNat * (tt.at e).size + j) (by omega)
          cases e'
          rw [Nat.add_assoc]
          exact ⟨h1, h2⟩
    · cases hk2
  · rename_i m e cs hd
    split at hk2
    · rename_i hcond
      simp only [Bool.and_eq_true, decide_eq_true_eq] at hcond
      obtain ⟨⟨hok, h0⟩, hlen⟩ := hcond
      obtain ⟨hb, hk⟩ := chk_some hk2
      simp only [Bool.and_eq_true, decide_eq_true_eq] at hb
      have hu : P.underlying t = some (.array m e) := und_of T hd
      have hsz' := T.sizeOf (w := w) hok
      have hlt : n.toNat * (tt.at e).size + (tt.at e).size ≤ cs.length := by
        refine Nat.le_trans ?_ hlen
        rw [← Nat.succ_mul]
        exact Nat.mul_le_mul_right _ (by omega)
      cases ra with
      | @iptr _ b o f hc hr =>
        refine ⟨_, .pointer (some ⟨b, o + n.toNat * (tt.at e).size, none⟩), ?_, ?_, hk⟩
        · simp [Instr.indexAt, asIntOf, run_underlying hu, hb.1, hb.2, hsz', Instr.sureAddr, add_off]
        · refine .iptr (fun j => f (n.toNat * (tt.at e).size + j)) (fun j hj => ?_) (fun j v hv => hr _ v (by rw [List.getElem?_drop] at hv; exact hv))
          rw [List.length_drop] at hj
          have := hc (n.toNat * (tt.at e).size + j) (by omega)
          rw [Nat.add_assoc]
          exact this
    · cases hk2
  · cases hk2
end

section
variable {P : Program} {tt : TTab} {w : World} {h : Heap} {c : Cfg} {R : Type}

theorem partK_ok {t off : Nat} {cs : List V} {k : V → Option R} {r : R} (hk : partK tt t cs off k = some r) : tt.ok t = true := by
  unfold partK at hk
  split at hk
  · assumption
  · cases hk

theorem fieldAddr_sound (T : TOK P tt) {s f : Nat} {a : V} {a' : Value} (ra : Rep w h c a a') {k : V → Option R} {r : R}
    (hk : (match (generalizing := false) (tt.at s).d with
    | .struct fs =>
      (match (generalizing := false) fs[f]? with
       | some (off, t) =>
         if (tt.at t).size = 0 || !tt.ok t then none else
         (match (generalizing := false) a with
          | .ptr i o => k (.ptr i (o + off))
          | .iptr cs => k (.iptr (cs.drop off))
          | .rptr i n j o => k (.rptr i n j (o + off))
          | _ => none)
       | none => none)
    | _ => none) = some r) : Makes P w h c (Instr.fieldAt s a' f) k r := by
  split at hk
  · rename_i fs hd
    split at hk
    · rename_i off t hf
      split at hk
      · cases hk
      · rename_i hc0
        simp only [Bool.or_eq_true, decide_eq_true_eq, Bool.not_eq_true', not_or, Bool.not_eq_false] at hc0
        obtain ⟨hsz, hok⟩ := hc0
        obtain ⟨F, fd, hu, hfd, rfl, rfl⟩ := struct_field T hd hf
        have hs := T.sizeOf (w := w) hok
        have run : ∀ b o, (Instr.fieldAt s (.pointer (some ⟨b, o, none⟩)) f).run P w = .ok (.pointer (some ⟨b, o + fd.offset, none⟩)) w := by
          intro b o
          simp [Instr.fieldAt, run_underlying hu, hfd, Instr.sureAddr, fieldPlace, hs, hsz, add_off]
        have run' : ∀ a : Addr, (Instr.fieldAt s (.pointer (some a)) f).run P w = .ok (.pointer (some (a.add fd.offset))) w := by
          intro a
          simp [Instr.fieldAt, run_underlying hu, hfd, Instr.sureAddr, fieldPlace, hs, hsz]
        split at hk
        · rename_i ra
          cases ra with
          | ptr hi hv =>
            obtain ⟨b, rfl, hb⟩ := hv
            exact ⟨_, _, run _ _, .ptr hi ⟨b, rfl, hb⟩, hk⟩
        · rename_i ra
          cases ra with
          | iptr g hc hr =>
            refine ⟨_, _, run _ _, .iptr (fun j => g (fd.offset + j)) (fun j hj => ?_) (fun j v hv => ?_), hk⟩
            · simp at hj
              have := hc (fd.offset + j) (by omega)
              rw [Nat.add_assoc]; exact this
            · rw [List.getElem?_drop] at hv
              exact hr _ v hv
        · rename_i ra
          cases ra with
          | rptr hi hv =>
            obtain ⟨a, rfl, hv⟩ := hv
            refine ⟨_, _, run' a, .rptr hi ⟨_, rfl, fun T' l he hn hj => ?_⟩, hk⟩
            obtain ⟨b, hb, rfl⟩ := hv T' l he hn hj
            exact ⟨b, hb, by rw [add_off, Nat.add_assoc]⟩
        · cases hk
    · cases hk
  · cases hk

theorem field_sound (T : TOK P tt) {s f : Nat} {a : V} {a' : Value} (ra : Rep w h c a a') {k : V → Option R} {r : R}
    (hk : (match (generalizing := false) (tt.at s).d, a with
    | .struct fs, .agg cs => (match (generalizing := false) fs[f]? with | some (off, t) => partK tt t cs off k | none => none)
    | _, _ => none) = some r) : Makes P w h c (Instr.field s a' f) k r := by
  split at hk
  · have hd := ‹(tt.at s).d = .struct _›
    have ra := ‹Rep w h c (.agg _) a'›
    split at hk
    · rename_i off t hf
      obtain ⟨F, fd, hu, hfd, rfl, rfl⟩ := struct_field T hd hf
      cases ra with
      | @agg _ x hl hr =>
        obtain ⟨v, v', h1, h2, h3⟩ := partK_sound (x := x) T ⟨by rw [hl, Array.length_toList], fun j v d hv hd => hr j v d hv (by simpa using hd)⟩ hk
        exact ⟨v, v', by simp [Instr.field, run_underlying hu, hfd, asAgg, h1], h2, h3⟩
    · cases hk
  · cases hk

theorem str_index {s : ByteArray} {n : Int} (h0 : 0 ≤ n) (h1 : n < s.data.toList.length) : (if 0 ≤ n then s[n.toNat]? else none) = some (s.data.toList.getD n.toNat 0) := by
  have hlt : n.toNat < s.size := by rw [← size_data]; omega
  have e : s[n.toNat]? = some (s[n.toNat]'hlt) := getElem?_pos s n.toNat hlt
  rw [if_pos h0, e]
  have : s[n.toNat]'hlt = s.data.toList.getD n.toNat 0 := by
    have hl : n.toNat < s.data.toList.length := by omega
    simp only [List.getD, List.getElem?_eq_getElem hl, Option.getD_some]
    rfl
  rw [this]

theorem index_sound (T : TOK P tt) {t : Nat} {a i : V} {a' i' : Value} (ra : Rep w h c a a') (ri : Rep w h c i i') {k : V → Option R} {r : R}
    (hk : (idxOf i fun n =>
    match (generalizing := false) (tt.at t).d, a with
    | .string, .str s => chk (decide (0 ≤ n) && decide (n < s.length)) (k (.int .u8 (s.getD n.toNat 0).toNat))
    | .arr m e, .agg cs => chk (decide (0 ≤ n) && decide (n < m)) (partK tt e cs (n.toNat * (tt.at e).size) k)
    | _, _ => none) = some r) : Makes P w h c (Instr.index t a' i') k r := by
  obtain ⟨ik, n, rfl, hk2⟩ := idxOf_some ri hk
  clear hk
  split at hk2
  · have hd := ‹(tt.at t).d = .string›
    have ra := ‹Rep w h c (.str _) a'›
    obtain ⟨hb, hk⟩ := chk_some hk2
    simp only [Bool.and_eq_true, decide_eq_true_eq] at hb
    have hu : P.underlying t = some .string := und_of T hd
    obtain ⟨t', rfl, rfl, _⟩ := ra.str_inv
    refine ⟨_, _, ?_, .int (has_byte _ (UInt8.toNat_lt _)), hk⟩
    have := str_index hb.1 hb.2
    simp only [Instr.index, Sem.run_bind, asIntOf, Sem.run_pure, Result.andThen_ok, run_underlying hu, this]
  · have hd := ‹(tt.at t).d = .arr _ _›
    have ra := ‹Rep w h c (.agg _) a'›
    obtain ⟨hb, hk⟩ := chk_some hk2
    simp only [Bool.and_eq_true, decide_eq_true_eq] at hb
    have hu := und_of T hd
    simp only [TD.Is] at hu
    have hok := partK_ok hk
    have hs := T.sizeOf (w := w) hok
    cases ra with
    | @agg _ x hl hr =>
      obtain ⟨v, v', h1, h2, h3⟩ := partK_sound (x := x) T ⟨by rw [hl, Array.length_toList], fun j v d hv hd => hr j v d hv (by simpa using hd)⟩ hk
      exact ⟨v, v', by simp [Instr.index, asIntOf, run_underlying hu, hb.1, hb.2, hs, h1], h2, h3⟩
  · cases hk2

theorem slice_str {s : ByteArray} {l hh : Nat} : (s.extract l hh).data.toList = (s.data.toList.drop l).take (hh - l) := by
  simp [ByteArray.data_extract, List.extract]

theorem view_rep {i n sz : Nat} {A : Option Addr} {cap : Nat} (hu : Used h i) (hn : n ≤ mx) (hcap : n ≤ cap) (hmx : cap ≤ mx) (hA : 0 < n → ∃ a, A = some a)
    (hv : ∀ T l, h.at i = .row T l → n = l.length ∧ n ≤ cap ∧ cap ≤ mx ∧
        ((c.blk i = none ∧ A = none ∧ cap = 0) ∨ ∃ b arr e fz, c.blk i = some b ∧ A = some ⟨b, c.off i, none⟩ ∧ w.heap[b]? = some (Obj.cells arr e fz) ∧ c.off i + cap * T.sz ≤ arr.size)) (lo hi : Nat) (h1 : lo ≤ hi) (h2 : hi ≤ n) :
    Rep w h c (.rview i sz lo (hi - lo)) (.slice (if cap = lo then A else A.map (·.add (lo * sz))) (hi - lo) (cap - lo)) := by
  refine .rview hu (by omega) ⟨_, _, rfl, ⟨by omega, by omega, fun hp => ?_⟩, fun T l he hz hq => ?_⟩
  · obtain ⟨a, ha⟩ := hA (by omega)
    rw [if_neg (by omega), ha]
    exact ⟨_, rfl⟩
  · obtain ⟨g1, _, _, g4⟩ := hv T l he
    refine ⟨by omega, fun hlt => ?_⟩
    rcases g4 with ⟨_, _, g⟩ | ⟨b, arr, e, fz, k1, k2, k3, k4⟩
    · omega
    · subst hz
      refine ⟨b, arr, e, fz, k1, ?_, k3, ?_⟩
      · rw [if_neg (by omega), k2]
        simp [add_off]
      · rw [show lo + (cap - lo) = cap by omega]; exact k4

theorem slice_sound (T : TOK P tt) {t : Nat} {a : V} {a' : Value} (ra : Rep w h c a a') {ρ : Operand → V} {ρ' : Operand → Value} (hρ : ∀ x, Rep w h c (ρ x) (ρ' x)) (lo hi : Option Operand)
    {k : V → Option R} {r : R}
    (hk : (match (generalizing := false) (tt.at t).d, a with
       | .string, .str s =>
         optI (hi.map ρ) s.length fun h => optI (lo.map ρ) 0 fun l =>
         chk (decide (0 ≤ h) && decide (h ≤ s.length)) (chk (decide (0 ≤ l) && decide (l ≤ h)) (k (.str ((s.drop l.toNat).take (h.toNat - l.toNat)))))
       | .slice e, .sl T s _ =>
         if T.sz = (tt.at e).size && tt.ok e then
         optI (lo.map ρ) 0 fun l =>
         (match (generalizing := false) hi with
          | none => chk (decide (0 ≤ l) && decide (l ≤ s.length)) (k (.sl T (s.drop l.toNat) .no))
          | some hi =>
            optI (some (ρ hi)) 0 fun h =>
            chk (decide (0 ≤ h) && decide (h ≤ s.length)) (chk (decide (0 ≤ l) && decide (l ≤ h)) (k (.sl T ((s.drop l.toNat).take (h.toNat - l.toNat)) .no))))
         else none
       | .slice e, .nilsl =>
         if !tt.ok e then none else
         optI (hi.map ρ) 0 fun h => optI (lo.map ρ) 0 fun l => chk (decide (h = 0) && decide (l = 0)) (k .nilsl)
       | .slice e, .row i n =>
         if !tt.ok e then none else
         optI (hi.map ρ) n fun h => optI (lo.map ρ) 0 fun l => chk (decide (0 ≤ h) && decide (h ≤ n)) (chk (decide (0 ≤ l) && decide (l ≤ h)) (k (.rview i (tt.at e).size l.toNat (h.toNat - l.toNat))))
       | _, _ => none) = some r) : Makes P w h c (Instr.sliceAt t a' (lo.map ρ') (hi.map ρ') none) k r := by
  split at hk
  · have hd := ‹(tt.at t).d = .string›
    have ra := ‹Rep w h c (.str _) a'›
    have hu : P.underlying t = some .string := und_of T hd
    obtain ⟨hh, hk, hhi⟩ := optI_some (map_opt hρ hi) hk
    obtain ⟨l, hk, hlo⟩ := optI_some (map_opt hρ lo) hk
    obtain ⟨hb, hk⟩ := chk_some hk
    obtain ⟨hb', hk⟩ := chk_some hk
    simp only [Bool.and_eq_true, decide_eq_true_eq] at hb hb'
    obtain ⟨t', rfl, rfl, hmx⟩ := ra.str_inv
    rw [size_data] at hb hhi
    have hrun := run_sliceBounds (P := P) (w := w) false t'.size t'.size (lo.map ρ') (hi.map ρ') l hh hlo hhi hb'.1 hb'.2 hb.2
    refine ⟨_, .string (t'.extract l.toNat hh.toNat), ?_, rep_str _ slice_str ?_, hk⟩
    · simp [Instr.sliceAt, Instr.slice, run_underlying hu, hrun]
    · simp; omega
  · have hd := ‹(tt.at t).d = .slice _›
    have ra := ‹Rep w h c (.sl _ _ _) a'›
    rename_i s _ _ _
    split at hk
    · rename_i hcond
      simp only [Bool.and_eq_true, decide_eq_true_eq] at hcond
      obtain ⟨hsz, hok⟩ := hcond
      have hu := und_of T hd
      simp only [TD.Is] at hu
      have hs := T.sizeOf (w := w) hok
      obtain ⟨A, cap, rfl, hcap, hmx⟩ := sl_inv ra
      obtain ⟨l, hk, hlo⟩ := optI_some (map_opt hρ lo) hk
      cases hi with
      | none =>
        obtain ⟨hb, hk⟩ := chk_some hk
        simp only [Bool.and_eq_true, decide_eq_true_eq] at hb
        have hrun := run_sliceBounds (P := P) (w := w) true s.length cap (lo.map ρ') none l s.length hlo (.inl ⟨rfl, rfl⟩) hb.1 hb.2 (by omega)
        have hc := cut_rep ra l.toNat s.length (by omega) (Nat.le_refl _)
        rw [List.take_of_length_le (by simp)] at hc
        refine ⟨_, _, ?_, hc, hk⟩
        simp [Instr.sliceAt, Instr.slice, run_underlying hu, hrun, hs, ← hsz]
      | some hi =>
        obtain ⟨hh, hk, hhi⟩ := optI_some (v' := some (ρ' hi)) (hρ hi) hk
        obtain ⟨hb, hk⟩ := chk_some hk
        obtain ⟨hb', hk⟩ := chk_some hk
        simp only [Bool.and_eq_true, decide_eq_true_eq] at hb hb'
        have hrun := run_sliceBounds (P := P) (w := w) true s.length cap (lo.map ρ') (some (ρ' hi)) l hh hlo (hhi.imp (fun x => by cases x.1) id) hb'.1 hb'.2 (by omega)
        have hc := cut_rep ra l.toNat hh.toNat (by omega) (by omega)
        refine ⟨_, _, ?_, hc, hk⟩
        simp [Instr.sliceAt, Instr.slice, run_underlying hu, hrun, hs, ← hsz]
    · cases hk
  · have hd := ‹(tt.at t).d = .slice _›
    have ra := ‹Rep w h c .nilsl a'›
    split at hk
    · cases hk
    · rename_i hok
      simp at hok
      have hu := und_of T hd
      simp only [TD.Is] at hu
      have hs := T.sizeOf (w := w) hok
      obtain ⟨hh, hk, hhi⟩ := optI_some (map_opt hρ hi) hk
      obtain ⟨l, hk, hlo⟩ := optI_some (map_opt hρ lo) hk
      obtain ⟨hb, hk⟩ := chk_some hk
      simp only [Bool.and_eq_true, decide_eq_true_eq] at hb
      obtain ⟨rfl, rfl⟩ := hb
      have hrun := run_sliceBounds (P := P) (w := w) true 0 0 (lo.map ρ') (hi.map ρ') 0 0 hlo hhi (by omega) (by omega) (by omega)
      cases ra
      refine ⟨_, .slice none 0 0, ?_, .nilsl, hk⟩
      simp [Instr.sliceAt, Instr.slice, run_underlying hu, hrun, hs]
  · have hd := ‹(tt.at t).d = .slice _›
    have ra := ‹Rep w h c (.row _ _) a'›
    split at hk
    · cases hk
    · rename_i hok
      simp at hok
      have hu := und_of T hd
      simp only [TD.Is] at hu
      have hs := T.sizeOf (w := w) hok
      obtain ⟨hh, hk, hhi⟩ := optI_some (map_opt hρ hi) hk
      obtain ⟨l, hk, hlo⟩ := optI_some (map_opt hρ lo) hk
      obtain ⟨hb, hk⟩ := chk_some hk
      obtain ⟨hb', hk⟩ := chk_some hk
      simp only [Bool.and_eq_true, decide_eq_true_eq] at hb hb'
      cases ra with
      | row hu' hn hv =>
        obtain ⟨A, cap, rfl, ⟨hcap, hmx, hA⟩, hv⟩ := hv
        have hrun := run_sliceBounds (P := P) (w := w) true _ cap (lo.map ρ') (hi.map ρ') l hh hlo hhi hb'.1 hb'.2 (by omega)
        refine ⟨_, _, ?_, view_rep hu' hn hcap hmx hA hv l.toNat hh.toNat (by omega) (by omega), hk⟩
        simp [Instr.sliceAt, Instr.slice, run_underlying hu, hrun, hs]
  · cases hk
end

section
variable {P : Program} {tt : TTab} {w : World} {h : Heap} {c : Cfg} {R : Type}

theorem makes_run {s : Sem Value} {k : V → Option R} {r : R} (hm : Makes P w h c s k r) :
    ∃ v v', ((do pure (Next.value (← s))) : Sem Next).run P w = .ok (.value v') w ∧ Rep w h c v v' ∧ k v = some r := by
  obtain ⟨v, v', h1, h2, h3⟩ := hm
  exact ⟨v, v', by simp [h1], h2, h3⟩

theorem binOp_sound (T : TOK P tt) {op : BinOp} {t : Nat} (x y : Operand) {a b : V} {a' b' : Value} (ra : Rep w h c a a') (rb : Rep w h c b b') {k : V → Option R} {r : R}
    (hk : (match (generalizing := false) a, b with
    | .agg a, .agg b => if eqOk (tt.at t) a b then binK op (.agg a) (.agg b) k else none
    | .bool a, .bool b => (match (generalizing := false) (tt.at t).d with | .bool => binK op (.bool a) (.bool b) k | _ => none)
    | .int i a, .int j b => binK op (.int i a) (.int j b) k
    | .str a, .str b => binK op (.str a) (.str b) k
    | a, b => (match (generalizing := false) (tt.at t).d with | .ptr _ => ptrK op a b k | .slice _ => slK op a b k | .iface => ifK op y a b k | _ => none)) = some r) :
    Makes P w h c (do eqGuard op t x y a' b'; binOp op t a' b') k r := by
  split at hk
  · have ra := ‹Rep w h c (.agg _) a'›
    have rb := ‹Rep w h c (.agg _) b'›
    split at hk
    · rename_i heq
      cases ra with
      | @agg _ u hl hr =>
        cases rb with
        | @agg _ v hl' hr' =>
          exact binK_agg T heq ⟨by rw [hl, Array.length_toList], fun j v d hv hd => hr j v d hv (by simpa using hd)⟩
            ⟨by rw [hl', Array.length_toList], fun j v d hv hd => hr' j v d hv (by simpa using hd)⟩ x y hk
    · cases hk
  · have ra := ‹Rep w h c (.bool _) a'›
    have rb := ‹Rep w h c (.bool _) b'›
    split at hk
    · rename_i hd
      rw [ra.bool_inv, rb.bool_inv]
      exact binK_bool T hd x y hk
    · cases hk
  · have ra := ‹Rep w h c (.int _ _) a'›
    have rb := ‹Rep w h c (.int _ _) b'›
    rename_i i m j n _ _
    have e1 := ra.int_inv
    have e2 := rb.int_inv
    rw [e1.1, e2.1]
    exact binK_int e2.2 t x y hk e1.2
  · have ra := ‹Rep w h c (.str _) a'›
    have rb := ‹Rep w h c (.str _) b'›
    obtain ⟨s, rfl, rfl, _⟩ := ra.str_inv
    obtain ⟨u, rfl, rfl, _⟩ := rb.str_inv
    exact binK_str t x y hk
  · split at hk
    · rename_i hd
      exact ptrK_sound T hd ra rb x y hk
    · rename_i hd
      exact slK_sound T hd ra rb x y hk
    · rename_i hd
      exact ifK_sound T hd ra rb x y hk
    · cases hk

theorem convert_sound (T : TOK P tt) {s d : Nat} {a : V} {a' : Value} (ra : Rep w h c a a') {k : V → Option R} {r : R}
    (hk : (match (generalizing := false) (tt.at d).d, a with
    | .int i, .int _ n => k (.int i (i.wrap n))
    | .string, .str t => (match (generalizing := false) (tt.at s).d with | .string => k (.str t) | _ => none)
    | _, _ => none) = some r)
    (hs : tt.ok s = true) : Makes P w h c (convert s d a') k r := by
  split at hk
  · have hd := ‹(tt.at d).d = .int _›
    have ra := ‹Rep w h c (.int _ _) a'›
    have hu := und_of T hd
    simp only [TD.Is] at hu
    obtain ⟨rfl, _⟩ := ra.int_inv
    have hsu := T.und s
    refine ⟨_, _, ?_, .int (has_wrap _ _), hk⟩
    unfold TTab.ok at hs
    cases hd' : (tt.at s).d <;> rw [hd'] at hsu hs <;> simp only [TD.Is] at hsu
    case struct fs => obtain ⟨F, hF, _⟩ := hsu; simp [convert, run_underlying hu, run_underlying hF, Conv.intToInt]
    case func => obtain ⟨x, y, z, hF⟩ := hsu; simp [convert, run_underlying hu, run_underlying hF, Conv.intToInt]
    case iface => obtain ⟨x, hF⟩ := hsu; simp [convert, run_underlying hu, run_underlying hF, Conv.intToInt]
    case other => cases hs
    all_goals simp [convert, run_underlying hu, run_underlying hsu, Conv.intToInt]
  · have hd := ‹(tt.at d).d = .string›
    have ra := ‹Rep w h c (.str _) a'›
    have hu := und_of T hd
    simp only [TD.Is] at hu
    split at hk
    · have hd2 := ‹(tt.at s).d = .string›
      have hu2 := und_of T hd2
      simp only [TD.Is] at hu2
      have ra' := ra
      obtain ⟨t, rfl, rfl, hl⟩ := ra.str_inv
      exact ⟨_, _, by simp [convert, run_underlying hu, run_underlying hu2], ra', hk⟩
    · cases hk
  · cases hk

theorem len_sound (T : TOK P tt) {t : Nat} {o : Nat} {a : V} {a' : Value} (ra : Rep w h c a a') {k : V → Option R} {r : R}
    (hk : (match (generalizing := false) (tt.at t).d, a with
          | .string, .str s => k (.int .i64 s.length)
          | .slice _, .sl _ l _ => k (.int .i64 l.length)
          | .slice _, .vsl n _ => k (.int .i64 n)
          | .slice _, .row _ n => k (.int .i64 n)
          | .slice _, .nilsl => k (.int .i64 0)
          | _, _ => none) = some r) : Makes P w h c (Builtin.len_ #[t] o #[a']) k r := by
  have key : ∀ (e : TypeId) (A : Option Addr) (n m : Nat), P.underlying t = some (.slice e) → (Builtin.len_ #[t] o #[.slice A n m]).run P w = .ok (.int .i64 n) w := by
    intro e A n m hu; simp [Builtin.len_, run_underlying hu, goInt]
  split at hk
  · have hu : P.underlying t = some .string := und_of T ‹(tt.at t).d = .string›
    have ra := ‹Rep w h c (.str _) a'›
    obtain ⟨s, rfl, rfl, hl⟩ := ra.str_inv
    refine ⟨_, .int .i64 s.size, by simp [Builtin.len_, run_underlying hu, goInt], ?_, hk⟩
    rw [size_data]; exact .int (has_len _ hl)
  · have hu := und_of T ‹(tt.at t).d = .slice _›
    simp only [TD.Is] at hu
    have ra := ‹Rep w h c (.sl _ _ _) a'›
    obtain ⟨A, cap, rfl, h1, h2⟩ := sl_inv ra
    exact ⟨_, _, key _ _ _ _ hu, .int (has_len _ (by omega)), hk⟩
  · have hu := und_of T ‹(tt.at t).d = .slice _›
    simp only [TD.Is] at hu
    have ra := ‹Rep w h c (.vsl _ _) a'›
    cases ra with
    | vsl hn hmx f hc hr => exact ⟨_, _, key _ _ _ _ hu, .int (has_len _ hmx), hk⟩
  · have hu := und_of T ‹(tt.at t).d = .slice _›
    simp only [TD.Is] at hu
    have ra := ‹Rep w h c (.row _ _) a'›
    cases ra with
    | row hi hn hv =>
      obtain ⟨A, cap, rfl, _, _⟩ := hv
      exact ⟨_, _, key _ _ _ _ hu, .int (has_len _ hn), hk⟩
  · have hu := und_of T ‹(tt.at t).d = .slice _›
    simp only [TD.Is] at hu
    have ra := ‹Rep w h c .nilsl a'›
    cases ra
    exact ⟨_, _, key _ _ 0 0 hu, .int (has_len 0 (by unfold mx; omega)), hk⟩
  · cases hk

theorem mapM_places (T : TOK P tt) (F : Array Field) (hok : ∀ f ∈ F.toList, tt.ok f.type = true) :
    (F.mapM (m := Sem) fun f => do pure (f.offset, ← Go.sizeOf f.type)).run P w = .ok (F.map fun f => (f.offset, (tt.at f.type).size)) w := by
  rw [Array.mapM_eq_mapM_toList]
  have key : ∀ l : List Field, (∀ f ∈ l, tt.ok f.type = true) → (l.mapM (m := Sem) fun f => do pure (f.offset, ← Go.sizeOf f.type)).run P w = .ok (l.map fun f => (f.offset, (tt.at f.type).size)) w := by
    intro l
    induction l with
    | nil => intro _; simp
    | cons f l ih =>
      intro h
      have hs := T.sizeOf (w := w) (h f (by simp))
      have := ih fun g hg => h g (by simp [hg])
      simp only [List.mapM_cons, Sem.run_bind, hs, Result.andThen_ok, Sem.run_pure, this, List.map_cons]
  simp only [Sem.run_map, key _ hok, Result.andThen_ok]
  congr 1
  apply Array.ext'
  simp

theorem mem_fs {fs : List (Nat × Nat)} {F : Array Field} (e : F.toList.map (fun f => (f.offset, f.type)) = fs) (hall : fs.all (fun f => tt.ok f.2) = true) : ∀ f ∈ F.toList, tt.ok f.type = true := by
  intro f hf
  have : (f.offset, f.type) ∈ fs := by rw [← e]; exact List.mem_map.2 ⟨f, hf, rfl⟩
  exact List.all_eq_true.1 hall _ this

theorem zeroLen (T : TOK P tt) {t : Nat} (h : tt.ok t = true) : (tt.at t).zero.length = (tt.at t).size := by
  obtain ⟨z, _, h2, h3⟩ := T.zero (w := default) h
  have := (h3 default [] ⟨fun _ => none, fun _ => 0, ⟨fun _ _ => False⟩⟩).1
  simp at this; omega

theorem parts_map {ρ : Operand → V} {ρ' : Operand → Value} (hρ : ∀ x, Rep w h c (ρ x) (ρ' x)) (parts : List (Nat × Operand)) :
    (parts.map fun p => (p.1, ρ p.2)).map Prod.fst = (parts.map fun p => (p.1, ρ' p.2)).map Prod.fst ∧
    RepL w h c ((parts.map fun p => (p.1, ρ p.2)).map Prod.snd) ((parts.map fun p => (p.1, ρ' p.2)).map Prod.snd) := by
  refine ⟨by simp [Function.comp_def], ?_⟩
  simp only [List.map_map]
  exact RepL.map parts fun p _ => hρ p.2

theorem build_sound (T : TOK P tt) {t : Nat} {parts : Array (Nat × Operand)} {ρ : Operand → V} {ρ' : Operand → Value} (hρ : ∀ x, Rep w h c (ρ x) (ρ' x)) {k : V → Option R} {r : R}
    (hk : (match (generalizing := false) (tt.at t).d with
    | .struct fs =>
      if !fs.all (fun f => tt.ok f.2) || !tt.ok t || decide (1000000 ≤ (tt.at t).zero.length) then none else
      (match (generalizing := false) fillV (tt.at t).zero (parts.toList.map fun (i, x) => ((fs.getD i (0, 0)).1, if i < fs.length then (tt.at (fs.getD i (0, 0)).2).size else 1000000, ρ x)) with
       | some cs => k (.agg cs) | none => none)
    | .arr _ e =>
      if !tt.ok e || !tt.ok t || decide (1000000 ≤ (tt.at t).zero.length) then none else
      (match (generalizing := false) fillV (tt.at t).zero (parts.toList.map fun (i, x) => (i * (tt.at e).size, (tt.at e).size, ρ x)) with
       | some cs => k (.agg cs) | none => none)
    | _ => none) = some r) : Makes P w h c (Instr.build t (parts.map fun (i, x) => (i, ρ' x))) k r := by
  have hparts := parts_map hρ parts.toList
  split at hk
  · rename_i fs hd
    split at hk
    · cases hk
    · rename_i hc0
      simp only [Bool.or_eq_true, Bool.not_eq_true', decide_eq_true_eq, not_or, Bool.not_eq_false, Nat.not_le] at hc0
      obtain ⟨⟨hall, hok⟩, hsm⟩ := hc0
      obtain ⟨F, hu, he⟩ := und_of T hd
      obtain ⟨z, hz, hzs, hzr⟩ := T.zero (w := w) hok
      split at hk
      · rename_i cs hf
        have hplaces := mapM_places (w := w) T F (mem_fs he hall)
        have hl := zeroLen T hok
        obtain ⟨out', h1, h2, h3⟩ := fill_sound (w := w) (h := h) (c := c) (fun i => (F.map fun f => (f.offset, (tt.at f.type).size))[i]?) (parts.toList.map fun p => (p.1, ρ p.2)) (parts.toList.map fun p => (p.1, ρ' p.2))
          (tt.at t).zero z.cells cs hparts.1 hparts.2 (hzr w h c) (by
            rw [← hf, List.map_map]
            congr 1
            apply List.map_congr_left
            intro p _
            obtain ⟨i, x⟩ := p
            subst he
            simp only [Function.comp, List.length_map, Array.length_toList, Array.getElem?_map]
            by_cases hi : i < F.size
            · simp [hi, List.getD]
            · simp [hi, List.getD]) (by omega)
        have h2' : Rep w h c (.agg cs) (.agg out') := .agg (by have := h2.1; simpa using this) (fun j v d hv hd => h2.2 j v d hv (by simpa using hd))
        refine ⟨.agg cs, .agg out', ?_, h2', hk⟩
        simp only [Instr.build, Sem.run_bind, hz, Result.andThen_ok, run_underlying hu, hplaces, Array.toList_map]
        rw [h1]
        rfl
      · cases hk
  · rename_i n e hd
    split at hk
    · cases hk
    · rename_i hc0
      simp only [Bool.or_eq_true, Bool.not_eq_true', decide_eq_true_eq, not_or, Bool.not_eq_false, Nat.not_le] at hc0
      obtain ⟨⟨hoke, hok⟩, hsm⟩ := hc0
      have hu := und_of T hd
      simp only [TD.Is] at hu
      obtain ⟨z, hz, hzs, hzr⟩ := T.zero (w := w) hok
      have hse := T.sizeOf (w := w) hoke
      split at hk
      · rename_i cs hf
        have hl := zeroLen T hok
        obtain ⟨out', h1, h2, h3⟩ := fill_sound (w := w) (h := h) (c := c) (fun i => some (i * (tt.at e).size, (tt.at e).size)) (parts.toList.map fun p => (p.1, ρ p.2)) (parts.toList.map fun p => (p.1, ρ' p.2))
          (tt.at t).zero z.cells cs hparts.1 hparts.2 (hzr w h c) (by
            rw [← hf, List.map_map]
            congr 1) (by omega)
        have h2' : Rep w h c (.agg cs) (.agg out') := .agg (by have := h2.1; simpa using this) (fun j v d hv hd => h2.2 j v d hv (by simpa using hd))
        refine ⟨.agg cs, .agg out', ?_, h2', hk⟩
        simp [Instr.build, hz, run_underlying hu, hse, h1]
      · cases hk
  · cases hk
end

section
variable {P : Program} {tt : TTab} {w : World} {h : Heap} {c : Cfg} {R : Type}

theorem repl_map {ρ : Operand → V} {ρ' : Operand → Value} (hρ : ∀ x, Rep w h c (ρ x) (ρ' x)) (l : List Operand) : RepL w h c (l.map ρ) (l.map ρ') := RepL.map l fun x _ => hρ x

theorem repl_arr {ρ : Operand → V} {ρ' : Operand → Value} (hρ : ∀ x, Rep w h c (ρ x) (ρ' x)) (l : Array Operand) :
    (l.toList.map ρ).length = (l.map ρ').size ∧ ∀ (j : Nat) (v : V) (d : Value), (l.toList.map ρ)[j]? = some v → (l.map ρ')[j]? = some d → Rep w h c v d := by
  have := repl_map hρ l.toList
  exact ⟨by simp, fun j v d hv hd => this.2 j v d hv (by simpa using hd)⟩

theorem min_sound {ts : Array TypeId} {o : Nat} {x y : V} {x' y' : Value} (rx : Rep w h c x x') (ry : Rep w h c y y') {k : V → Option R} {r : R}
    (hk : (match (generalizing := false) x, y with | .int i a, .int j b => if i = j then k (.int i (min a b)) else none | _, _ => none) = some r) : Makes P w h c (Builtin.min_ ts o #[x', y']) k r := by
  split at hk
  · rename_i i a j b'
    split at hk
    · rename_i hij
      subst hij
      obtain ⟨rfl, ha⟩ := rx.int_inv
      obtain ⟨rfl, hb⟩ := ry.int_inv
      refine ⟨_, .int i (min a b'), ?_, .int (by unfold IntKind.has at *; omega), hk⟩
      rw [run_min_int2]
      congr 2
      split <;> omega
    · cases hk
  · cases hk

theorem max_sound {ts : Array TypeId} {o : Nat} {x y : V} {x' y' : Value} (rx : Rep w h c x x') (ry : Rep w h c y y') {k : V → Option R} {r : R}
    (hk : (match (generalizing := false) x, y with | .int i a, .int j b => if i = j then k (.int i (max a b)) else none | _, _ => none) = some r) : Makes P w h c (Builtin.max_ ts o #[x', y']) k r := by
  split at hk
  · rename_i i a j b'
    split at hk
    · rename_i hij
      subst hij
      obtain ⟨rfl, ha⟩ := rx.int_inv
      obtain ⟨rfl, hb⟩ := ry.int_inv
      refine ⟨_, .int i (max a b'), ?_, .int (by unfold IntKind.has at *; omega), hk⟩
      rw [run_max_int2]
      congr 2
      split <;> omega
    · cases hk
  · cases hk

theorem opP_sound (T : TOK P tt) {o : Oper} {ρ : Operand → V} {ρ' : Operand → Value} (hρ : ∀ x, Rep w h c (ρ x) (ρ' x)) {k : V → Option R} {r : R}
    (hk : opP tt o.op ρ k = some r) : ∃ v v', (execOp ρ' o).run P w = .ok (.value v') w ∧ Rep w h c v v' ∧ k v = some r := by
  obtain ⟨dst, op, type, pos, after, guard⟩ := o
  cases op <;> simp only [opP] at hk <;> try (first | cases hk)
  case move x => exact ⟨_, _, by simp [execOp], hρ x, hk⟩
  case assign x => exact ⟨_, _, by simp [execOp], hρ x, hk⟩
  case pick cc a b =>
    have rc := hρ cc
    have ra := hρ a
    have rb := hρ b
    split at hk
    · rename_i t ht
      rw [ht] at rc
      have ec := rc.bool_inv
      have run : (execOp ρ' ⟨dst, .pick cc a b, type, pos, after, guard⟩).run P w = .ok (.value (if t then ρ' a else ρ' b)) w := by
        simp [execOp, ec, asBool]
      split at hk
      · rename_i u v hu hv
        rw [hu] at ra; rw [hv] at rb
        refine ⟨_, _, run, ?_, hk⟩
        rw [ra.bool_inv, rb.bool_inv]
        cases t <;> exact .bool _
      · cases t
        · exact ⟨_, _, run, rb, hk⟩
        · exact ⟨_, _, run, ra, hk⟩
    · cases hk
  case nilCheck x =>
    have rx := hρ x
    split at hk <;> try (first | cases hk)
    · rename_i i o hx
      rw [hx] at rx
      have rx' := rx
      cases rx with
      | ptr hi hv => obtain ⟨b, hv, _⟩ := hv; exact ⟨_, ρ' x, by simp [execOp, hv], rx', hk⟩
    · rename_i cs hx
      rw [hx] at rx
      have rx' := rx
      generalize hy : ρ' x = y at rx
      cases rx with
      | iptr f hc hr => exact ⟨_, ρ' x, by simp [execOp, hy], rx', hk⟩
    · rename_i i n j o hx
      rw [hx] at rx
      have rx' := rx
      cases rx with
      | rptr hi hv => obtain ⟨b, hv, _⟩ := hv; exact ⟨_, ρ' x, by simp [execOp, hv], rx', hk⟩
    · rename_i f a b hx
      rw [hx] at rx
      have rx' := rx
      generalize hy : ρ' x = y at rx
      cases rx with
      | func ha hb hra hrb => exact ⟨_, ρ' x, by simp [execOp, hy], rx', hk⟩
  case binOp op t x y ty =>
    exact makes_run (binOp_sound T x y (hρ x) (hρ y) hk)
  case unOp op t x =>
    have rx := hρ x
    split at hk <;> try (first | cases hk)
    · rename_i i n hx
      rw [hx] at rx
      exact ⟨_, .int i (i.wrap (0 - n)), by simp [execOp, Op.unary, rx.int_inv.1, Op.intArith], .int (has_wrap _ _), hk⟩
    · rename_i b hx
      rw [hx] at rx
      exact ⟨_, _, by simp [execOp, Op.unary, rx.bool_inv], .bool _, hk⟩
  case convert s d x =>
    split at hk
    · cases hk
    · rename_i hs
      exact makes_run (convert_sound T (hρ x) hk (by simpa using hs))
  case makeInterface t x =>
    have rx := hρ x
    split at hk <;> try (first | cases hk)
    rename_i k0 i n hd hx
    rw [hx] at rx
    have hu := und_of T hd
    simp only [TD.Is] at hu
    exact ⟨_, .iface t (.int i n), by simp [execOp, Instr.makeInterface, run_underlying hu, rx.int_inv.1], .ifi rx.int_inv.2, hk⟩
  case fieldAddr s x f => exact makes_run (fieldAddr_sound T (hρ x) hk)
  case field s x f => exact makes_run (field_sound T (hρ x) hk)
  case indexAddr t x i => exact makes_run (indexAddr_sound T (hρ x) (hρ i) hk)
  case index t x i => exact makes_run (index_sound T (hρ x) (hρ i) hk)
  case slice t x lo hi mx =>
    split at hk
    · cases hk
    · exact makes_run (slice_sound T (hρ x) hρ lo hi hk)
  case makeFunc fn first cap =>
    cases fn <;> simp only at hk <;> try (first | cases hk)
    rename_i f
    obtain ⟨l1, r1⟩ := repl_arr hρ first
    obtain ⟨l2, r2⟩ := repl_arr hρ cap
    exact ⟨_, .func (.func f) (first.map ρ') (cap.map ρ'), by simp [execOp, Instr.makeFunc], .func l1 l2 r1 r2, hk⟩
  case extract t i =>
    have rt := hρ t
    split at hk <;> try (first | cases hk)
    rename_i vs ht
    rw [ht] at rt
    split at hk
    · rename_i v hv
      generalize hy : ρ' t = y at rt
      cases rt with
      | @tuple _ x hl hr =>
        have hlt : i < vs.length := (List.getElem?_eq_some_iff.1 hv).1
        have hx : x[i]? = some (x[i]'(by omega)) := Array.getElem?_eq_getElem (by omega)
        exact ⟨v, _, by simp [execOp, hy, Instr.extract, hx], hr i v _ hv hx, hk⟩
    · cases hk
  case build t parts => exact makes_run (build_sound T hρ hk)
  case call cl =>
    obtain ⟨callee, args, argTypes⟩ := cl
    simp only at hk
    split at hk <;> try (first | cases hk)
    · rename_i x ha
      obtain rfl : args = #[x] := by cases args; simp_all
      split at hk <;> try (first | cases hk)
      rename_i t ht
      obtain rfl : argTypes = #[t] := by cases argTypes; simp_all
      have := makes_run (len_sound (P := P) (o := type) T (hρ x) hk)
      simpa [execOp, resolve, invoke, builtin] using this
    · rename_i x y ha
      obtain rfl : args = #[x, y] := by cases args; simp_all
      have := makes_run (min_sound (P := P) (ts := argTypes) (o := type) (hρ x) (hρ y) hk)
      simpa [execOp, resolve, invoke, builtin] using this
    · rename_i x y ha
      obtain rfl : args = #[x, y] := by cases args; simp_all
      have := makes_run (max_sound (P := P) (ts := argTypes) (o := type) (hρ x) (hρ y) hk)
      simpa [execOp, resolve, invoke, builtin] using this
end
end Go.Yard

namespace Go.Yard
open Go.RowKit Go.MapKept

section
variable {P : Program} {tt : TTab} {w w' : World} {h : Heap} {c : Cfg} {R : Type}

def findL (K T : Ty) (k : K.den) : List (K.den × T.den) → List MapEntry → Nat → Option (Nat × Value)
  | x :: l, e :: es, i => if keyEq K k x.1 then some (i, e.val) else findL K T k l es (i + 1)
  | _, _, _ => none

theorem findL_get {K T : Ty} {k : K.den} : ∀ (l : List (K.den × T.den)) (es : List MapEntry) (i : Nat), es.length = l.length →
    (findL K T k l es i = none ∧ mapHas K T k l = false ∧ mapGet K T k l = T.dflt ∧ ∀ v, mapPut K T k v l = l ++ [(k, v)]) ∨
    ∃ j x e, findL K T k l es i = some (i + j, e.val) ∧ l[j]? = some x ∧ es[j]? = some e ∧ keyEq K k x.1 = true ∧ mapHas K T k l = true ∧ mapGet K T k l = x.2 ∧ ∀ v, mapPut K T k v l = l.set j (k, v)
  | [], [], _, _ => .inl ⟨rfl, rfl, rfl, fun _ => rfl⟩
  | [], _ :: _, _, hl => by cases hl
  | _ :: _, [], _, hl => by cases hl
  | x :: l, e :: es, i, hl => by
    cases hk : keyEq K k x.1 with
    | true => exact .inr ⟨0, x, e, by simp [findL, hk], rfl, rfl, hk, by simp [mapHas, hk], by simp [mapGet, hk], fun v => by simp [mapPut, hk]⟩
    | false =>
      rcases findL_get (T := T) (k := k) l es (i + 1) (by simpa using hl) with ⟨h1, h2, h3, h4⟩ | ⟨j, y, f, h1, h2, h3, h4, h5, h6, h7⟩
      · exact .inl ⟨by simp [findL, hk, h1], by simp [mapHas, hk, h2], by simp [mapGet, hk, h3], fun v => by simp [mapPut, hk, h4 v]⟩
      · exact .inr ⟨j + 1, y, f, by simp [findL, hk, h1]; omega, by simpa using h2, by simpa using h3, h4, by simp [mapHas, hk, h5], by simp [mapGet, hk, h6], fun v => by simp [mapPut, hk, h7 v]⟩

theorem key_str {kx : Str} {d : Value} (r : Rep w h c (elV .str kx) d) : ∃ s, d = .string s ∧ s.data.toList = kx := by
  obtain ⟨s, h1, h2, _⟩ := Rep.str_inv (s := kx) r
  exact ⟨s, h1, h2⟩
theorem key_int {k : IntKind} {n : Int} {d : Value} (r : Rep w h c (elV (.int k) n) d) : d = .int k n := (Rep.int_inv (n := n) r).1

theorem beq_bytes {a b : ByteArray} : (a == b) = (a.data.toList == b.data.toList) := by
  rw [Bool.eq_iff_iff]
  rw [bytes_beq]
  simp only [beq_iff_eq]
  exact ⟨fun e => by rw [e], fun e => string_ext e⟩

theorem key_same {kt : Nat} (T : TOK P tt) {K : Ty} (hk : keyFits tt kt K = true) {kx ky : K.den} {d e : Value} (rk : Rep w h c (elV K kx) d) (re : Rep w h c (elV K ky) e) :
    ∃ u, P.underlying kt = some u ∧ IsKey u d ∧ IsKey u e ∧ Instr.sameNow u d e = some (keyEq K kx ky) ∧ (keyEq K kx ky = true → e = d) := by
  unfold keyFits at hk
  split at hk
  · split at hk
    · rename_i hd
      have hu : P.underlying kt = some .string := und_of T hd
      obtain ⟨s, rfl, hs⟩ := key_str rk
      obtain ⟨t, rfl, ht⟩ := key_str re
      subst hs; subst ht
      refine ⟨_, hu, by simp [IsKey], by simp [IsKey], ?_, fun he => ?_⟩
      · simp only [Instr.sameNow, keyEq, beq_bytes]
      · have : s.data.toList = t.data.toList := by simpa [keyEq] using he
        rw [string_ext this]
    · cases hk
  · rename_i k
    split at hk
    · rename_i k' hd
      have e : k' = k := by simpa using hk
      subst e
      have hu : P.underlying kt = some (.int k') := und_of T hd
      have e1 := key_int rk
      have e2 := key_int re
      subst e1; subst e2
      refine ⟨_, hu, by simp [IsKey], by simp [IsKey], ?_, fun he => ?_⟩
      · simp [Instr.sameNow, keyEq]
      · have h' : @BEq.beq Int _ kx ky = true := he
        have : kx = ky := @eq_of_beq Int _ _ kx ky h'
        rw [this]
    · cases hk
  · cases hk

theorem find_run {kt : Nat} (T : TOK P tt) {K V' : Ty} (hk : keyFits tt kt K = true) {kx : K.den} {d : Value} (rk : Rep w h c (elV K kx) d) {u : TypeDesc} (hu : P.underlying kt = some u) :
    ∀ (l : List (K.den × V'.den)) (es : List MapEntry) (i : Nat), es.length = l.length → (∀ (j : Nat) (x : K.den × V'.den) (e : MapEntry), l[j]? = some x → es[j]? = some e → Rep w h c (elV K x.1) e.key) →
      Instr.findNow u d es i = some (findL K V' kx l es i)
  | [], [], _, _, _ => rfl
  | [], _ :: _, _, hl, _ => by cases hl
  | _ :: _, [], _, hl, _ => by cases hl
  | x :: l, e :: es, i, hl, hr => by
    obtain ⟨u', hu', _, _, hs, _⟩ := key_same T hk rk (hr 0 x e rfl rfl)
    rw [hu] at hu'; cases hu'
    have ih := find_run T hk rk hu l es (i + 1) (by simpa using hl) fun j y f hy hf => hr (j + 1) y f (by simpa using hy) (by simpa using hf)
    simp only [Instr.findNow, hs]
    cases hb : keyEq K kx x.1 with
    | true => simp [findL, hb]
    | false => simp [findL, hb, ih]

theorem fits_one {kt : Nat} {K : Ty} (hk : keyFits tt kt K = true) : K.one = true ∧ keyable K = true := by
  cases K <;> first | exact ⟨rfl, rfl⟩ | (simp [keyFits] at hk)
theorem elFits_one {kt : Nat} {K : Ty} (hk : elFits tt kt K = true) : K.one = true := by
  cases K <;> first | rfl | (simp [elFits] at hk)

theorem decInt_eq {k : IntKind} {v : V} {x : Int} (h : decInt k [v] = some x) : v = .int k x := by
  unfold decInt at h
  split at h
  · rename_i e
    simp only [List.cons.injEq, and_true] at e
    split at h
    · rename_i e2; cases h; subst e2; exact e
    · cases h
  · cases h
theorem decBool_eq {v : V} {x : Bool} (h : decBool [v] = some x) : v = .bool x := by
  unfold decBool at h
  split at h
  · rename_i e
    simp only [List.cons.injEq, and_true] at e
    cases h; exact e
  · cases h
theorem decStr_eq {v : V} {x : Str} (h : decStr [v] = some x) : v = .str x := by
  unfold decStr at h
  split at h
  · rename_i e
    simp only [List.cons.injEq, and_true] at e
    cases h; exact e
  · cases h

theorem elD_eq {K : Ty} {v : V} {x : K.den} (hx : elD K v = some x) (ho : K.one = true) : v = elV K x := by
  have hd : K.dec [v] = some x := by
    unfold elD at hx
    split at hx <;> simp only [ho, cond_true] at hx
    · cases hx
    · exact hx
  cases K <;> simp only [Ty.one] at ho <;> try (first | cases ho)
  · exact decInt_eq hd
  · exact decBool_eq hd
  · exact decStr_eq hd

theorem ok_fits {vt : Nat} {V' : Ty} (hv : elFits tt vt V' = true) : tt.ok vt = true ∧ tt.isAgg vt = false := by
  unfold elFits at hv
  unfold TTab.ok TTab.isAgg
  split at hv
  · split at hv
    · rename_i hd _; rw [hd]; exact ⟨rfl, rfl⟩
    · cases hv
  · split at hv
    · rename_i hd _; rw [hd]; exact ⟨rfl, rfl⟩
    · cases hv
  · cases hv

theorem one_cells {z : Value} (h : z.oneCell' = true) : z.cells.toList = [z] := by
  cases z <;> simp_all [Value.oneCell', Value.cells]

theorem elFits_zero (T : TOK P tt) {vt : Nat} {V' : Ty} (hv : elFits tt vt V' = true) : ∃ z, (zeroValue vt).run P w = .ok z w ∧ Rep w h c (elV V' V'.dflt) z := by
  obtain ⟨hok, hag⟩ := ok_fits hv
  obtain ⟨i, z, hi, hs, hby, hz, hzs, hr⟩ := T.info vt hok
  have h1 := T.ones vt hok i z hi hz
  rw [hag] at h1
  have h3 := hr w h c
  rw [one_cells h1] at h3
  refine ⟨z, by simp [Go.zeroValue, typeInfo, hi, hz], ?_⟩
  unfold elFits at hv
  split at hv
  · split at hv
    · rename_i hd hz'
      rw [hz'] at h3
      exact h3.head
    · cases hv
  · split at hv
    · rename_i hd hz'
      have e : _ = _ := of_decide_eq_true hv
      subst e
      rw [hz'] at h3
      exact h3.head
    · cases hv
  · cases hv

theorem lookup_sound (T : TOK P tt) (wf : WF w h c) {t kt vt i : Nat} {K V' : Ty} {l : List (K.den × V'.den)} (ht : (tt.at t).d = .map kt vt) {m d : Value} (rm : Rep w h c (.map i) m) (hm : h.at i = .amap K V' l)
    (hf : (keyFits tt kt K && elFits tt vt V') = true) {v : V} (rk : Rep w h c v d) {kx : K.den} (hx : elD K v = some kx) (ok : Bool) :
    ∃ r, (Instr.lookup t m d ok).run P w = .ok r w ∧ Rep w h c (bif ok then .tuple [elV V' (mapGet K V' kx l), .bool (mapHas K V' kx l)] else elV V' (mapGet K V' kx l)) r := by
  simp only [Bool.and_eq_true] at hf
  obtain ⟨hf1, hf2⟩ := hf
  have hi : i < h.length := by
    unfold Heap.at at hm
    rcases Nat.lt_or_ge i (List.length h) with hi | hi
    · exact hi
    · simp [List.getD, List.getElem?_eq_none hi] at hm
  have ho := wf.obj i hi
  rw [hm] at ho
  obtain ⟨b, es, clock, g1, g2, g3, g4, g5, g6⟩ := ho
  cases rm with
  | map hu hv =>
    obtain ⟨b', rfl, hb'⟩ := hv
    have := hb' (by rw [hm]; simp)
    rw [g1] at this; cases this
    have hut : P.underlying t = some (.map kt vt) := und_of T ht
    have e := elD_eq hx (fits_one hf1).1
    subst e
    have hl : es.toList.length = l.length := by simpa using g5
    have hr : ∀ (j : Nat) (x : K.den × V'.den) (e : MapEntry), l[j]? = some x → es.toList[j]? = some e → Rep w h c (elV K x.1) e.key := fun j x e hx he => (g6 j x e hx (by simpa using he)).1
    obtain ⟨z, hz, rz⟩ := elFits_zero (w := w) (h := h) (c := c) T hf2
    have hkey : ∃ u, P.underlying kt = some u ∧ IsKey u d := by
      obtain ⟨u, q1, q2, _⟩ := key_same T hf1 rk rk
      exact ⟨u, q1, q2⟩
    obtain ⟨u, hu', hik⟩ := hkey
    have hfind := run_findKey (w := w) hu' (find_run T hf1 rk hu' l es.toList 0 hl hr)
    have hchk := run_checkKey (w := w) hu' hik es.isEmpty 9999
    have hget := Go.MapKept.run_getObj_map (P := P) g2
    rcases findL_get (K := K) (T := V') (k := kx) l es.toList 0 hl with ⟨h1, h2, h3, _⟩ | ⟨j, x, e, h1, h2, h3, h4, h5, h6, _⟩
    · rw [h1] at hfind
      rw [h2, h3]
      refine ⟨if ok then .tuple #[z, .bool false] else z, ?_, ?_⟩
      · simp [Instr.lookup, run_underlying hut, hget, hchk, hfind, hz]
      · cases ok with
        | true =>
          refine .tuple rfl fun j v d hv hd => ?_
          match j, hv, hd with
          | 0, hv, hd => simp at hv hd; subst hv; subst hd; exact rz
          | 1, hv, hd => simp at hv hd; subst hv; subst hd; exact .bool _
          | j + 2, hv, _ => simp at hv
        | false => exact rz
    · rw [h1] at hfind
      rw [h5, h6]
      have re := (g6 j x e h2 (by simpa using h3)).2
      refine ⟨if ok then .tuple #[e.val, .bool true] else e.val, ?_, ?_⟩
      · simp [Instr.lookup, run_underlying hut, hget, hchk, hfind]
      · cases ok with
        | true =>
          refine .tuple rfl fun j v d hv hd => ?_
          match j, hv, hd with
          | 0, hv, hd => simp at hv hd; subst hv; subst hd; exact re
          | 1, hv, hd => simp at hv hd; subst hv; subst hd; exact .bool _
          | j + 2, hv, _ => simp at hv
        | false => exact re
end
end Go.Yard

namespace Go.Yard
open Go.RowKit

section
variable {P : Program} {tt : TTab} {w : World} {h : Heap} {c : Cfg} {R : Type}

def CellsAt (w : World) (b o : Nat) (ds : List Value) : Prop := ∀ (j : Nat) (d : Value), ds[j]? = some d → w.cell? ⟨b, o + j, none⟩ = some d

theorem loadVar_sound (T : TOK P tt) {t b o off : Nat} {cs : List V} {ds : List Value} (hr : RepL w h c cs ds) (hc : CellsAt w b o ds) {k : V → Option R} {r : R} (hk : partK tt t cs off k = some r) :
    Makes P w h c (loadVar t ⟨b, o + off, none⟩) k r := by
  have hok := partK_ok hk
  unfold partK at hk
  rw [if_pos hok] at hk
  split at hk
  · rename_i hagg
    split at hk
    · rename_i hsz
      have hlen : ((ds.drop off).take (tt.at t).size).length = (tt.at t).size := by have := hr.1; simp; omega
      have hrep := (hr.drop off).take (tt.at t).size
      have hcells := run_loadCells_list (P := P) w ⟨b, o + off, none⟩ ((ds.drop off).take (tt.at t).size) (fun j v hv => by
        rw [List.getElem?_take] at hv
        split at hv
        · rw [List.getElem?_drop] at hv
          rw [add_off, Nat.add_assoc]
          exact hc _ v hv
        · cases hv)
      rw [hlen] at hcells
      refine ⟨_, .agg ((ds.drop off).take (tt.at t).size).toArray, ?_, .agg (by have := hrep.1; simpa using this) (fun j v d hv hd => hrep.2 j v d hv (by simpa using hd)), hk⟩
      simp [loadVar, T.isAgg hok, hagg, T.sizeOf hok, hcells]
    · cases hk
  · rename_i hagg
    split at hk
    · rename_i v hv
      have hlt : off < cs.length := (List.getElem?_eq_some_iff.1 hv).1
      have hd : ds[off]? = some (ds[off]'(by have := hr.1; omega)) := List.getElem?_eq_getElem _
      refine ⟨v, _, ?_, hr.2 off v _ hv hd, hk⟩
      simp [loadVar, T.isAgg hok, hagg, hc off _ hd]
    · cases hk

theorem Heap.at_live {i : Nat} {o : AObj} (e : h.at i = o) (hl : o ≠ .dead) : i < h.length := by
  unfold Heap.at at e
  rcases Nat.lt_or_ge i (List.length h) with hi | hi
  · exact hi
  · simp [List.getD, List.getElem?_eq_none hi] at e
    exact absurd e.symm hl

theorem foldl_push (ns : List Int) : ∀ s : ByteArray, (ns.foldl (fun (r : ByteArray) n => r.push (UInt8.ofNat n.toNat)) s).data.toList = s.data.toList ++ ns.map fun n => UInt8.ofNat n.toNat := by
  induction ns with
  | nil => intro s; simp
  | cons n ns ih => intro s; simp only [List.foldl_cons]; rw [ih]; simp [ByteArray.push]

theorem row_cells (wf : WF w h c) {i : Nat} {T' : Ty} {l : List T'.den} (he : h.at i = .row T' l) {j : Nat} (hj : j < l.length) :
    ∃ b ds, c.blk i = some b ∧ CellsAt w b (c.off i + j * T'.sz) ds ∧ RepL w h c (T'.cells l[j]) ds := by
  have hi := Heap.at_live he (by simp)
  have ho := wf.obj i hi
  rw [he] at ho
  rcases ho with ⟨_, rfl⟩ | ⟨b, arr, e, fz, h1, h2, h3, h4, h5⟩
  · simp at hj
  · have hlen := T'.cells_len l[j]
    have hm : (j + 1) * T'.sz ≤ l.length * T'.sz := Nat.mul_le_mul_right _ hj
    rw [Nat.add_mul] at hm
    refine ⟨b, (arr.toList.drop (c.off i + j * T'.sz)).take T'.sz, h1, fun x d hd => ?_, ?_, fun x v d hv hd => ?_⟩
    · rw [List.getElem?_take] at hd
      split at hd
      · rw [List.getElem?_drop] at hd
        rw [cell_of_row w b _ arr e fz h2]
        simpa using hd
      · cases hd
    · rw [hlen]; simp; omega
    · obtain ⟨d', g1, g2⟩ := h5 j x l[j] v (List.getElem?_eq_getElem hj) hv
      rw [List.getElem?_take] at hd
      split at hd
      · rw [List.getElem?_drop] at hd
        have : d' = d := by
          have e1 : arr[c.off i + j * T'.sz + x]? = some d := by simpa using hd
          rw [g1] at e1; exact Option.some.inj e1
        subst this
        exact g2
      · cases hd

theorem getD_eq {T' : Ty} {l : List T'.den} {j : Nat} (hj : j < l.length) : l.getD j T'.dflt = l[j] := by simp [List.getD, List.getElem?_eq_getElem hj]

theorem load_sound (T : TOK P tt) (wf : WF w h c) {t : Nat} {a : V} {a' : Value} (ra : Rep w h c a a') {lim : Option Nat} {k : V → Option R} {r : R}
    (hk : (match (generalizing := false) a with
    | .ptr i o =>
      if limOk lim i then
        match (generalizing := false) h.at i with
        | .cells cs => partK tt t cs o k
        | .bld v => partK tt t [.undef, v] o k
        | _ => none
      else none
    | .iptr cs => partK tt t cs 0 k
    | .rptr i sz j o =>
      if limOk lim i then
        match (generalizing := false) h.at i with
        | .row T l => if sz = T.sz then chk (decide (j < l.length)) (partK tt t (T.cells (l.getD j T.dflt)) o k) else none
        | _ => none
      else none
    | _ => none) = some r) : Makes P w h c (Instr.loadAt t a') k r := by
  split at hk
  · rename_i i o
    split at hk
    · split at hk
      · rename_i cs he
        have hi := Heap.at_live he (by simp)
        have ho := wf.obj i hi
        rw [he] at ho
        obtain ⟨b, arr, e, h1, h2, h3⟩ := ho
        cases ra with
        | ptr hu hv =>
          obtain ⟨b', rfl, hb⟩ := hv
          have hb' := hb (by rw [he]; simp)
          rw [h1] at hb'
          cases hb'
          have := loadVar_sound (w := w) (b := b) (o := 0) T h3 (fun j d hd => by
            rw [cell_of_row w b _ arr e _ h2]; simpa using hd) hk
          simpa [Makes, Instr.loadAt, Instr.sureAddr] using this
      · rename_i v he
        have hi := Heap.at_live he (by simp)
        have ho := wf.obj i hi
        rw [he] at ho
        obtain ⟨b, p, d, h1, h2, _, h3⟩ := ho
        cases ra with
        | ptr hu hv =>
          obtain ⟨b', rfl, hb⟩ := hv
          have hb' := hb (by rw [he]; simp)
          rw [h1] at hb'
          cases hb'
          have := loadVar_sound (w := w) (b := b) (o := 0) T (RepL.cons (.undef p) (RepL.cons h3 .nil)) (fun j d hd => by
            rw [cell_of_row w b _ _ _ _ h2]
            match j, hd with
            | 0, hd => simpa using hd
            | 1, hd => simpa using hd
            | j + 2, hd => simp at hd) hk
          simpa [Makes, Instr.loadAt, Instr.sureAddr] using this
      · cases hk
    · cases hk
  · rename_i cs
    cases ra with
    | @iptr _ b o f hc hr =>
      have hr' : RepL w h c cs ((List.range cs.length).map f) := by
        refine ⟨by simp, fun j v d hv hd => ?_⟩
        simp only [List.getElem?_map] at hd
        have hlt : j < cs.length := (List.getElem?_eq_some_iff.1 hv).1
        rw [List.getElem?_range hlt] at hd
        simp at hd; subst hd
        exact hr j v hv
      have := loadVar_sound (w := w) (b := b) (o := o) (off := 0) T hr' (fun j d hd => by
        simp only [List.getElem?_map] at hd
        by_cases hlt : j < cs.length
        · rw [List.getElem?_range hlt] at hd
          simp at hd; subst hd
          exact (hc j hlt).1
        · rw [List.getElem?_eq_none (by simp; omega)] at hd; cases hd) hk
      simpa [Makes, Instr.loadAt, Instr.sureAddr] using this
  · rename_i i sz j o
    split at hk
    · split at hk
      · rename_i T' l he
        split at hk
        · rename_i hsz
          obtain ⟨hj, hk⟩ := chk_some hk
          simp at hj
          rw [getD_eq hj] at hk
          obtain ⟨b, ds, h1, h2, h3⟩ := row_cells wf he hj
          cases ra with
          | rptr hu hv =>
            obtain ⟨a, rfl, hv⟩ := hv
            obtain ⟨b', hb', rfl⟩ := hv T' l he hsz hj
            rw [h1] at hb'
            cases hb'
            have := loadVar_sound T h3 h2 hk
            simpa [Makes, Instr.loadAt, Instr.sureAddr] using this
        · cases hk
      · cases hk
    · cases hk
  · cases hk

theorem row_bytes (wf : WF w h c) {i : Nat} {ik : IntKind} {l : List Int} (hl : h.at i = .row (.int ik) l) (hne : l ≠ []) :
    ∃ b, c.blk i = some b ∧ CellsAt w b (c.off i) (l.map (Value.int ik)) := by
  have hi := Heap.at_live hl (by simp)
  have ho := wf.obj i hi
  rw [hl] at ho
  rcases ho with ⟨_, rfl⟩ | ⟨b, arr, el, fz, p1, p2, p3, p4, p5⟩
  · exact absurd rfl hne
  · have p5' : ∀ (n : Nat) (z : Int), l[n]? = some z → arr[c.off i + n]? = some (.int ik z) := fun n z hz => by
      obtain ⟨d, t1, t2⟩ := p5 n 0 z (.int ik z) hz rfl
      rw [t2.int_inv.1] at t1
      simpa [Ty.sz] using t1
    refine ⟨b, p1, fun j d hd => ?_⟩
    simp only [List.getElem?_map] at hd
    cases hlj : l[j]? with
    | none => rw [hlj] at hd; cases hd
    | some z =>
      rw [hlj] at hd; simp at hd; subst hd
      rw [cell_of_row w b _ arr el fz p2]
      exact p5' j z hlj

theorem sl_bytes {ik : IntKind} {l : List Int} {t : Tok} {A : Option Addr} {n cap : Nat} (r : Rep w h c (.sl (.int ik) l t) (.slice A n cap)) (hne : l ≠ []) :
    ∃ b o, A = some ⟨b, o, none⟩ ∧ n = l.length ∧ CellsAt w b o (l.map (Value.int ik)) := by
  cases r with
  | sl f hcap hmx hc hr hnil hown =>
    have hpos : 0 < l.length := List.length_pos_iff.2 hne
    obtain ⟨b, o, rfl, _⟩ := hc 0 0 hpos (by simp [Ty.sz])
    refine ⟨b, o, rfl, rfl, fun j d hd => ?_⟩
    simp only [List.getElem?_map] at hd
    cases hlj : l[j]? with
    | none => rw [hlj] at hd; cases hd
    | some z =>
      rw [hlj] at hd; simp at hd; subst hd
      have hlt : j < l.length := (List.getElem?_eq_some_iff.1 hlj).1
      obtain ⟨b', o', e', g1, _⟩ := hc j 0 hlt (by simp [Ty.sz])
      cases e'
      have := hr j 0 z (.int ik z) hlj rfl
      rw [this.int_inv.1] at g1
      simpa [Ty.sz] using g1

theorem conv_bytes {s d e : TypeId} (us : P.underlying s = some (.slice e)) (ue : P.underlying e = some (.int .u8)) (ud : P.underlying d = some .string) {l : List Int} {A : Option Addr} {n cap : Nat}
    (hn : n = l.length) (hcell : l ≠ [] → ∃ b o, A = some ⟨b, o, none⟩ ∧ CellsAt w b o (l.map (Value.int .u8))) :
    ∃ t, (convert s d (.slice A n cap)).run P w = .ok (.string t) w ∧ t.data.toList = l.map fun n => UInt8.ofNat n.toNat := by
  rw [run_convert_bytes_string w s d e A n cap us ue ud]
  by_cases hl0 : l = []
  · subst hl0
    subst hn
    refine ⟨.empty, ?_, rfl⟩
    cases A with
    | none => simp [Conv.bytesToString]
    | some a =>
      have hlc := run_loadCells_list (P := P) w a [] (fun j v hv => by simp at hv)
      exact run_bytesToString (P := P) w a 0 cap [] (by simpa using hlc)
  · obtain ⟨b, o, rfl, hc⟩ := hcell hl0
    have hlc := run_loadCells_list (P := P) w ⟨b, o, none⟩ (l.map (Value.int .u8)) (fun j v hv => by rw [add_off]; exact hc j v hv)
    rw [List.length_map, ← hn] at hlc
    exact ⟨_, run_bytesToString (P := P) w ⟨b, o, none⟩ n cap l hlc, by rw [foldl_push]; rfl⟩

theorem foldl_runes (l : List Int) : ∀ s : ByteArray, (l.foldl (fun r n => r ++ Utf8.encode n) s).data.toList = s.data.toList ++ runesB l := by
  induction l with
  | nil => intro s; simp [runesB]
  | cons n l ih => intro s; simp only [List.foldl_cons]; rw [ih]; simp [runesB]

theorem runesBytes_list (l : List Int) : (Go.runesBytes l).data.toList = runesB l := by
  unfold Go.runesBytes
  rw [foldl_runes]
  simp

theorem conv_runes {s d e : TypeId} (us : P.underlying s = some (.slice e)) (ue : P.underlying e = some (.int .i32)) (ud : P.underlying d = some .string) {l : List Int} {A : Option Addr} {n cap : Nat}
    (hn : n = l.length) (hcell : l ≠ [] → ∃ b o, A = some ⟨b, o, none⟩ ∧ CellsAt w b o (l.map (Value.int .i32))) :
    ∃ t, (convert s d (.slice A n cap)).run P w = .ok (.string t) w ∧ t.data.toList = runesB l ∧ t.size ≤ 4 * l.length := by
  have hcv : (convert s d (.slice A n cap)).run P w = (Conv.runesToString (.slice A n cap)).run P w := by
    unfold convert
    simp [run_underlying us, run_underlying ue, run_underlying ud]
  rw [hcv]
  by_cases hl0 : l = []
  · subst hl0
    subst hn
    refine ⟨.empty, ?_, rfl, by simp⟩
    cases A with
    | none => simp [Conv.runesToString]
    | some a =>
      have hlc := run_loadCells_list (P := P) w a [] (fun j v hv => by simp at hv)
      exact Go.run_runesToString (P := P) w a 0 cap [] (by simpa using hlc)
  · obtain ⟨b, o, rfl, hc⟩ := hcell hl0
    have hlc := run_loadCells_list (P := P) w ⟨b, o, none⟩ (l.map (Value.int .i32)) (fun j v hv => by rw [add_off]; exact hc j v hv)
    rw [List.length_map, ← hn] at hlc
    exact ⟨_, Go.run_runesToString (P := P) w ⟨b, o, none⟩ n cap l hlc, runesBytes_list l, Go.runesBytes_size_le l⟩

theorem opR_sound (T : TOK P tt) (wf : WF w h c) {o : Oper} {ρ : Operand → V} {ρ' : Operand → Value} (hρ : ∀ x, Rep w h c (ρ x) (ρ' x)) {lim : Option Nat} {k : V → Option R} {r : R}
    (hk : opR tt o.op ρ h lim k = some r) : ∃ v v', (execOp ρ' o).run P w = .ok (.value v') w ∧ Rep w h c v v' ∧ k v = some r := by
  obtain ⟨dst, op, type, pos, after, guard⟩ := o
  cases op <;> simp only [opR] at hk <;> try (first | cases hk)
  case load t x => exact makes_run (load_sound T wf (hρ x) hk)
  case lookup t x ix ok =>
    have rx := hρ x
    split at hk <;> try (first | cases hk)
    rename_i kt vt i ht hx
    rw [hx] at rx
    split at hk <;> try (first | cases hk)
    split at hk <;> try (first | cases hk)
    rename_i K V' l hm
    split at hk <;> try (first | cases hk)
    rename_i hf
    split at hk <;> try (first | cases hk)
    rename_i kx hkx
    obtain ⟨v', g1, g2⟩ := lookup_sound T wf ht rx hm hf (hρ ix) hkx ok
    refine ⟨_, v', by simp [execOp, g1], g2, ?_⟩
    cases ok <;> exact hk
  case convert s d x =>
    have rx := hρ x
    split at hk <;> try (first | cases hk)
    · rename_i e i n hd hs hx
      rw [hx] at rx
      split at hk
      · split at hk <;> try (first | cases hk)
        rename_i l he hl
        have ud := und_of T hd
        have us := und_of T hs
        have ue := und_of T he
        simp only [TD.Is] at ud us ue
        cases rx with
        | row hu hn hv =>
          obtain ⟨A, cap, hv', hA, hv⟩ := hv
          obtain ⟨g1, g2, g3, g4⟩ := hv _ _ hl
          obtain ⟨t, h1, h2⟩ := conv_bytes (w := w) (A := A) (cap := cap) (l := l) us ue ud g1 (fun hne => by
            obtain ⟨b, hb, hc⟩ := row_bytes wf hl hne
            rcases g4 with ⟨q0, _⟩ | ⟨b', arr, el, fz, q1, rfl, q2, q3⟩
            · rw [hb] at q0; cases q0
            · rw [hb] at q1; cases q1
              exact ⟨b, _, rfl, hc⟩)
          refine ⟨_, .string t, ?_, rep_str t h2 ?_, hk⟩
          · simp only [execOp, Sem.run_bind, hv', h1, Result.andThen_ok, Sem.run_pure]
          · refine Nat.le_trans (Nat.le_of_eq (@List.length_map Int UInt8 (l : List Int) _)) ?_
            exact (show l.length ≤ mx from g1 ▸ hn)
      · cases hk
    · rename_i e T' l tk hd hs hx
      rw [hx] at rx
      split at hk <;> try (first | cases hk)
      · rename_i l he
        have ud := und_of T hd
        have us := und_of T hs
        have ue := und_of T he
        simp only [TD.Is] at ud us ue
        obtain ⟨A, cap, hv, hcap, hmx⟩ := sl_inv rx
        rw [hv] at rx
        obtain ⟨t, h1, h2⟩ := conv_bytes (w := w) (A := A) (cap := cap) (l := l) (n := List.length l) us ue ud rfl (fun hne => by
          obtain ⟨b, o, e1, _, e3⟩ := sl_bytes rx hne
          exact ⟨b, o, e1, e3⟩)
        refine ⟨_, .string t, ?_, rep_str t h2 ?_, hk⟩
        · simp only [execOp, Sem.run_bind, hv, h1, Result.andThen_ok, Sem.run_pure]
        · refine Nat.le_trans (Nat.le_of_eq (@List.length_map Int UInt8 (l : List Int) _)) ?_
          exact Nat.le_trans hcap hmx
      · rename_i l he
        obtain ⟨hb, hk⟩ := chk_some hk
        have ud := und_of T hd
        have us := und_of T hs
        have ue := und_of T he
        simp only [TD.Is] at ud us ue
        obtain ⟨A, cap, hv, hcap, hmx⟩ := sl_inv rx
        rw [hv] at rx
        obtain ⟨t, h1, h2, h3⟩ := conv_runes (w := w) (A := A) (cap := cap) (l := l) (n := List.length l) us ue ud rfl (fun hne => by
          obtain ⟨b, o, e1, _, e3⟩ := sl_bytes rx hne
          exact ⟨b, o, e1, e3⟩)
        refine ⟨_, .string t, ?_, rep_str t h2 ?_, hk⟩
        · simp only [execOp, Sem.run_bind, hv, h1, Result.andThen_ok, Sem.run_pure]
        · rw [← h2]
          have hb' : 4 * List.length (l : List Int) ≤ 9223372036854775807 := of_decide_eq_true hb
          refine Nat.le_trans ?_ hb'
          exact h3
    · rename_i e hd hs hx
      rw [hx] at rx
      split at hk <;> try (first | cases hk)
      rename_i he
      have ud := und_of T hd
      have us := und_of T hs
      have ue := und_of T he
      simp only [TD.Is] at ud us ue
      generalize hv : ρ' x = xv at rx
      cases rx
      obtain ⟨t, h1, h2⟩ := conv_bytes (w := w) (A := none) (cap := 0) (l := []) (n := 0) us ue ud rfl (fun hne => (hne rfl).elim)
      refine ⟨_, .string t, ?_, rep_str t h2 (Nat.zero_le _), hk⟩
      simp only [execOp, Sem.run_bind, hv, h1, Result.andThen_ok, Sem.run_pure]
end
end Go.Yard

namespace Go.Yard

def Wk (u v : V) : Prop := u = v ∨ ∃ (T : Ty) (l : List T.den), v = .sl T l .no ∧ asSl T u = some l

inductive WkL : List V → List V → Prop where
  | nil : WkL [] []
  | cons {u v : V} {us vs : List V} (h : Wk u v) (t : WkL us vs) : WkL (u :: us) (v :: vs)

theorem Wk.rfl {u : V} : Wk u u := .inl _root_.rfl
theorem Wk.sl {T : Ty} {u : V} {l : List T.den} (h : asSl T u = some l) : Wk u (.sl T l .no) := .inr ⟨T, l, _root_.rfl, h⟩

theorem decInt_wk (k : IntKind) {cs : List V} {x : Int} (h : decInt k cs = some x) : WkL cs (Ty.cells (.int k) x) := by
  unfold decInt at h
  split at h
  · split at h
    · rename_i e; subst e; cases h; exact .cons .rfl .nil
    · cases h
  · cases h
theorem decBool_wk  {cs : List V} {x : Bool} (h : decBool cs = some x) : WkL cs (Ty.cells (.bool) x) := by
  unfold decBool at h
  split at h
  · cases h; exact .cons .rfl .nil
  · cases h
theorem decStr_wk  {cs : List V} {x : Str} (h : decStr cs = some x) : WkL cs (Ty.cells (.str) x) := by
  unfold decStr at h
  split at h
  · cases h; exact .cons .rfl .nil
  · cases h
theorem decDcm_wk  {cs : List V} {x : Dcm} (h : decDcm cs = some x) : WkL cs (Ty.cells (.dcm) x) := by
  unfold decDcm at h
  split at h
  · cases h; exact .cons .rfl (.cons .rfl .nil)
  · cases h
theorem decJson_wk  {cs : List V} {x : Json} (h : decJson cs = some x) : WkL cs (Ty.cells (.json) x) := by
  unfold decJson at h
  split at h
  · split at h
    · cases h; exact .cons .rfl (.cons .rfl (.cons .rfl (.cons .rfl (.cons (.sl ‹_›) (.cons (.sl ‹_›) .nil)))))
    · cases h
  · cases h
theorem decRaw_wk  {cs : List V} {x : Raw} (h : decRaw cs = some x) : WkL cs (Ty.cells (.raw) x) := by
  unfold decRaw at h
  split at h
  · split at h
    · cases h; exact .cons .rfl (.cons .rfl (.cons .rfl (.cons (.sl ‹_›) (.cons (.sl ‹_›) .nil))))
    · cases h
  · cases h
theorem decRaw3_wk  {cs : List V} {x : Raw3} (h : decRaw3 cs = some x) : WkL cs (Ty.cells (.raw3) x) := by
  unfold decRaw3 at h
  split at h
  · split at h
    · cases h; exact .cons .rfl (.cons .rfl (.cons .rfl (.cons (.sl ‹_›) .nil)))
    · cases h
  · cases h
theorem decFld_wk  {cs : List V} {x : Fld} (h : decFld cs = some x) : WkL cs (Ty.cells (.fld) x) := by
  unfold decFld at h
  split at h
  · cases h; exact .cons .rfl (.cons .rfl (.cons .rfl (.cons .rfl (.cons .rfl .nil))))
  · cases h
theorem decMail_wk  {cs : List V} {x : Mail} (h : decMail cs = some x) : WkL cs (Ty.cells (.mail) x) := by
  unfold decMail at h
  split at h
  · cases h; exact .cons .rfl (.cons .rfl (.cons .rfl .nil))
  · cases h
theorem decToken_wk  {cs : List V} {x : Token} (h : decToken cs = some x) : WkL cs (Ty.cells (.token) x) := by
  unfold decToken at h
  split at h
  · cases h; exact .cons .rfl (.cons .rfl (.cons .rfl (.cons .rfl (.cons .rfl .nil))))
  · cases h
theorem decStop_wk  {cs : List V} {x : Stop} (h : decStop cs = some x) : WkL cs (Ty.cells (.stop) x) := by
  unfold decStop at h
  split at h
  · cases h; exact .cons .rfl (.cons .rfl (.cons .rfl .nil))
  · cases h
theorem decWay_wk  {cs : List V} {x : Way} (h : decWay cs = some x) : WkL cs (Ty.cells (.way) x) := by
  unfold decWay at h
  split at h
  · cases h; exact .cons .rfl (.cons .rfl (.cons .rfl .nil))
  · cases h
theorem decOrder_wk  {cs : List V} {x : Order} (h : decOrder cs = some x) : WkL cs (Ty.cells (.order) x) := by
  unfold decOrder at h
  split at h
  · split at h
    · cases h; exact .cons .rfl (.cons .rfl (.cons .rfl (.cons .rfl (.cons (.sl ‹_›) (.cons (.sl ‹_›) .nil)))))
    · cases h
  · cases h
theorem decEdge_wk  {cs : List V} {x : Edge} (h : decEdge cs = some x) : WkL cs (Ty.cells (.edge) x) := by
  unfold decEdge at h
  split at h
  · cases h; exact .cons .rfl (.cons .rfl (.cons .rfl .nil))
  · cases h
theorem decLayout_wk  {cs : List V} {x : Layout} (h : decLayout cs = some x) : WkL cs (Ty.cells (.layout) x) := by
  unfold decLayout at h
  split at h
  · split at h
    · cases h; exact .cons .rfl (.cons (.sl ‹_›) .nil)
    · cases h
  · cases h
theorem decTopic_wk  {cs : List V} {x : Topic} (h : decTopic cs = some x) : WkL cs (Ty.cells (.topic) x) := by
  unfold decTopic at h
  split at h
  · cases h; exact .cons .rfl (.cons .rfl (.cons .rfl .nil))
  · cases h
theorem decState_wk  {cs : List V} {x : State} (h : decState cs = some x) : WkL cs (Ty.cells (.state) x) := by
  unfold decState at h
  split at h
  · cases h; exact .cons .rfl (.cons .rfl (.cons .rfl (.cons .rfl (.cons .rfl (.cons .rfl (.cons .rfl (.cons .rfl (.cons .rfl (.cons .rfl .nil)))))))))
  · cases h
theorem decCtl_wk  {cs : List V} {x : Ctl} (h : decCtl cs = some x) : WkL cs (Ty.cells (.ctl) x) := by
  unfold decCtl at h
  split at h
  · split at h
    · cases h; exact .cons .rfl (.cons .rfl (.cons .rfl (.cons .rfl (.cons .rfl (.cons .rfl (.cons (.sl ‹_›) (.cons .rfl (.cons .rfl (.cons .rfl (.cons .rfl (.cons .rfl (.cons .rfl (.cons .rfl (.cons .rfl (.cons (.sl ‹_›) (.cons (.sl ‹_›) .nil))))))))))))))))
    · cases h
  · cases h
theorem decOp17_wk  {cs : List V} {x : Op17} (h : decOp17 cs = some x) : WkL cs (Ty.cells (.op17) x) := by
  unfold decOp17 at h
  split at h
  · cases h; exact .cons .rfl (.cons .rfl (.cons .rfl (.cons .rfl (.cons .rfl .nil))))
  · cases h
theorem decRaw13_wk  {cs : List V} {x : Raw13} (h : decRaw13 cs = some x) : WkL cs (Ty.cells (.raw13) x) := by
  unfold decRaw13 at h
  split at h
  · split at h
    · cases h; exact .cons .rfl (.cons .rfl (.cons .rfl (.cons .rfl (.cons .rfl (.cons .rfl (.cons (.sl ‹_›) .nil))))))
    · cases h
  · cases h
theorem decEv16_wk  {cs : List V} {x : Ev16} (h : decEv16 cs = some x) : WkL cs (Ty.cells (.ev16) x) := by
  unfold decEv16 at h
  split at h
  · split at h
    · cases h; exact .cons .rfl (.cons .rfl (.cons .rfl (.cons .rfl (.cons .rfl (.cons .rfl (.cons .rfl (.cons (.sl ‹_›) (.cons .rfl .nil))))))))
    · cases h
  · cases h
theorem decEv18_wk  {cs : List V} {x : Ev18} (h : decEv18 cs = some x) : WkL cs (Ty.cells (.ev18) x) := by
  unfold decEv18 at h
  split at h
  · split at h
    · cases h; exact .cons .rfl (.cons .rfl (.cons (.sl ‹_›) .nil))
    · cases h
  · cases h
theorem decArr3_wk  {cs : List V} {x : Arr3} (h : decArr3 cs = some x) : WkL cs (Ty.cells (.arr3) x) := by
  unfold decArr3 at h
  split at h
  · cases h; exact .cons .rfl (.cons .rfl (.cons .rfl .nil))
  · cases h
theorem decArr2_wk  {cs : List V} {x : Arr2} (h : decArr2 cs = some x) : WkL cs (Ty.cells (.arr2) x) := by
  unfold decArr2 at h
  split at h
  · cases h; exact .cons .rfl (.cons .rfl .nil)
  · cases h
theorem decDec2_wk  {cs : List V} {x : Dec2} (h : decDec2 cs = some x) : WkL cs (Ty.cells (.dec2) x) := by
  unfold decDec2 at h
  split at h
  · cases h; exact .cons .rfl (.cons .rfl (.cons .rfl (.cons .rfl .nil)))
  · cases h
theorem decPost_wk  {cs : List V} {x : Post} (h : decPost cs = some x) : WkL cs (Ty.cells (.post) x) := by
  unfold decPost at h
  split at h
  · cases h; exact .cons .rfl (.cons .rfl .nil)
  · cases h
theorem decJob_wk  {cs : List V} {x : Job} (h : decJob cs = some x) : WkL cs (Ty.cells (.job) x) := by
  unfold decJob at h
  split at h
  · cases h; exact .cons .rfl (.cons .rfl (.cons .rfl (.cons .rfl .nil)))
  · cases h
theorem decRecord_wk  {cs : List V} {x : Record} (h : decRecord cs = some x) : WkL cs (Ty.cells (.record) x) := by
  unfold decRecord at h
  split at h
  · split at h
    · cases h; exact .cons .rfl (.cons (.sl ‹_›) (.cons .rfl .nil))
    · cases h
  · cases h

theorem dec_wk : ∀ (T : Ty) {cs : List V} {x : T.den}, T.dec cs = some x → WkL cs (T.cells x)
  | .int k, _, _, h => decInt_wk k h
  | .bool, _, _, h => decBool_wk h
  | .str, _, _, h => decStr_wk h
  | .dcm, _, _, h => decDcm_wk h
  | .json, _, _, h => decJson_wk h
  | .raw, _, _, h => decRaw_wk h
  | .raw3, _, _, h => decRaw3_wk h
  | .fld, _, _, h => decFld_wk h
  | .mail, _, _, h => decMail_wk h
  | .token, _, _, h => decToken_wk h
  | .stop, _, _, h => decStop_wk h
  | .way, _, _, h => decWay_wk h
  | .order, _, _, h => decOrder_wk h
  | .edge, _, _, h => decEdge_wk h
  | .layout, _, _, h => decLayout_wk h
  | .topic, _, _, h => decTopic_wk h
  | .state, _, _, h => decState_wk h
  | .ctl, _, _, h => decCtl_wk h
  | .op17, _, _, h => decOp17_wk h
  | .raw13, _, _, h => decRaw13_wk h
  | .ev16, _, _, h => decEv16_wk h
  | .ev18, _, _, h => decEv18_wk h
  | .arr3, _, _, h => decArr3_wk h
  | .arr2, _, _, h => decArr2_wk h
  | .dec2, _, _, h => decDec2_wk h
  | .post, _, _, h => decPost_wk h
  | .job, _, _, h => decJob_wk h
  | .record, _, _, h => decRecord_wk h

end Go.Yard

namespace Go.Yard
open Go.RowKit

section
variable {P : Program} {tt : TTab} {w w' : World} {h h' : Heap} {c c' : Cfg}

theorem at_set (h : Heap) (i j : Nat) (o : AObj) : Heap.at (h.set i o) j = if i = j ∧ i < h.length then o else h.at j := by
  unfold Heap.at
  simp only [List.getD, List.getElem?_set]
  by_cases hij : i = j
  · subst hij
    by_cases hl : i < h.length
    · simp [hl]
    · simp [hl]
  · simp [hij]

theorem at_set_ne {i j : Nat} (o : AObj) (hij : i ≠ j) : Heap.at (h.set i o) j = h.at j := by rw [at_set]; simp [hij]
theorem at_set_eq {i : Nat} (o : AObj) (hi : i < h.length) : Heap.at (h.set i o) i = o := by rw [at_set]; simp [hi]

def Cfg.put (c : Cfg) (i : Nat) (b : Option Nat) (o : Nat) : Cfg := ⟨fun j => if j = i then b else c.blk j, fun j => if j = i then o else c.off j, c.ext⟩
theorem put_blk_ne {i j : Nat} (b : Option Nat) (o : Nat) (h : j ≠ i) : (c.put i b o).blk j = c.blk j := by simp [Cfg.put, h]
theorem put_off_ne {i j : Nat} (b : Option Nat) (o : Nat) (h : j ≠ i) : (c.put i b o).off j = c.off j := by simp [Cfg.put, h]
theorem put_blk_eq (i : Nat) (b : Option Nat) (o : Nat) : (c.put i b o).blk i = b := by simp [Cfg.put]
theorem put_off_eq (i : Nat) (b : Option Nat) (o : Nat) : (c.put i b o).off i = o := by simp [Cfg.put]

theorem live_of {o : AObj} (h1 : o ≠ .free) (h2 : o ≠ .dead) : o.live := by cases o <;> simp_all [AObj.live]
theorem live_ne_dead {o : AObj} (h : o.live) : o ≠ .dead := by rintro rfl; exact h
theorem lt_heap {b : Nat} {o : Obj} (h : w.heap[b]? = some o) : b < w.heap.size := (Array.getElem?_eq_some_iff.1 h).1

theorem ObjOK.lt {i b : Nat} {o : AObj} (ho : ObjOK w h c i o) (hl : o.live) (hb : c.blk i = some b) : b < w.heap.size := by
  cases o <;> simp only [AObj.live] at hl <;> simp only [ObjOK] at ho
  · obtain ⟨b', arr, e, h1, h2, _⟩ := ho
    rw [h1] at hb; cases hb; exact lt_heap h2
  · rcases ho with ⟨h1, _⟩ | ⟨b', arr, e, fz, h1, h2, _⟩
    · rw [h1] at hb; cases hb
    · rw [h1] at hb; cases hb; exact lt_heap h2
  · rcases ho with h1 | ⟨b', arr, e, fz, h1, h2, _⟩
    · rw [h1] at hb; cases hb
    · rw [h1] at hb; cases hb; exact lt_heap h2
  · obtain ⟨b', bs, h1, h2, _⟩ := ho
    rw [h1] at hb; cases hb; exact lt_heap h2
  · obtain ⟨b', p, d, h1, h2, _⟩ := ho
    rw [h1] at hb; cases hb; exact lt_heap h2
  · obtain ⟨b', es, cl, h1, h2, _⟩ := ho
    rw [h1] at hb; cases hb; exact lt_heap h2

theorem ObjOK.keep (x : Ext w h c w' h' c') {i : Nat} {o : AObj} (ho : ObjOK w h c i o) (hb : ∀ b, c.blk i = some b → w'.heap[b]? = w.heap[b]?) (e1 : c'.blk i = c.blk i) (e2 : c'.off i = c.off i) :
    ObjOK w' h' c' i o := by
  have hfz : ∀ b x, c.blk i = some b → w'.frozen? ⟨b, x, none⟩ = w.frozen? ⟨b, x, none⟩ := fun b x h => by simp only [World.frozen?, hb b h]
  cases o <;> simp only [ObjOK] at ho ⊢
  · obtain ⟨b, arr, e, h1, h2, h3⟩ := ho
    exact ⟨b, arr, e, e1 ▸ h1, (hb b h1).trans h2, h3.mono x⟩
  · rcases ho with ⟨h1, h2⟩ | ⟨b, arr, e, fz, h1, h2, h3, h4, h5⟩
    · exact .inl ⟨e1 ▸ h1, h2⟩
    · refine .inr ⟨b, arr, e, fz, e1 ▸ h1, (hb b h1).trans h2, by rw [e2]; exact h3, fun x hx => by rw [hfz b x h1]; exact h4 x hx, fun n j y v hy hv => ?_⟩
      obtain ⟨d, g1, g2⟩ := h5 n j y v hy hv
      exact ⟨d, by rw [e2]; exact g1, g2.mono x⟩
  · rcases ho with h1 | ⟨b, arr, e, fz, h1, h2, h3, h4⟩
    · exact .inl (e1 ▸ h1)
    · exact .inr ⟨b, arr, e, fz, e1 ▸ h1, (hb b h1).trans h2, by rw [e2]; exact h3, by rw [e2]; exact h4⟩
  · obtain ⟨b, bs, h1, h2, h3⟩ := ho
    exact ⟨b, bs, e1 ▸ h1, (hb b h1).trans h2, h3⟩
  · obtain ⟨b, p, d, h1, h2, h3, h4⟩ := ho
    exact ⟨b, p, d, e1 ▸ h1, (hb b h1).trans h2, h3, h4.mono x⟩
  · obtain ⟨b, es, cl, h1, h2, h3, h4, h5, h6⟩ := ho
    exact ⟨b, es, cl, e1 ▸ h1, (hb b h1).trans h2, h3, h4, h5, fun j q e hq he => ⟨(h6 j q e hq he).1.mono x, (h6 j q e hq he).2.mono x⟩⟩

theorem blocks_cell {b x : Nat} (h : w'.heap[b]? = w.heap[b]?) : w'.cell? ⟨b, x, none⟩ = w.cell? ⟨b, x, none⟩ := by simp only [World.cell?, h]

theorem new_ext (hb : Below w.heap.size w w') {id : Nat} (hf : h.at id = .free) (ob : AObj) {nb : Option Nat} {no : Nat} (hn : ∀ b, nb = some b → w.heap.size ≤ b) :
    Ext w h c w' (h.set id ob) (c.put id nb no) where
  os := hb.os
  tape := hb.tape
  output := hb.output
  size := hb.size
  used := fun i hi => by
    have hne : id ≠ i := by rintro rfl; exact hi.2 hf
    exact ⟨by simpa using hi.1, by rw [at_set_ne _ hne]; exact hi.2⟩
  same := fun i hi hd => by
    have hne : id ≠ i := by rintro rfl; exact hi.2 hf
    rw [at_set_ne _ hne] at hd ⊢
    refine ⟨?_, put_blk_ne _ _ (Ne.symm hne), put_off_ne _ _ (Ne.symm hne)⟩
    have h2 := hi.2
    revert hd h2
    cases h.at i <;> simp [AObj.sim]
  cell := fun b x hx _ => blocks_cell (hb.block b hx)
  block := fun b hx _ => hb.block b hx
  owns := fun b x hx ho => by
    obtain ⟨i, f, h1, h2, h3⟩ := ho
    by_cases hne : id = i
    · subst hne
      rw [put_blk_eq] at h1
      have := hn b h1
      omega
    · rw [put_blk_ne _ _ (Ne.symm hne)] at h1
      rw [at_set_ne _ hne, put_off_ne _ _ (Ne.symm hne)] at h2
      exact ⟨i, f, h1, h2, h3⟩
  ext := rfl
  arr := fun b arr e fz hx => ⟨arr, fz, by rw [hb.block b (lt_heap hx)]; exact hx, rfl⟩

theorem WF.lay_ext (wf : WF w h c) {h' : Heap} {c' : Cfg} (x : Ext w h c w' h' c') : Laid w' h' c' :=
  ⟨lay0.keep w w' (fun b hb => x.block b (wf.lay.2 b hb).1 (wf.lay.2 b hb).2) wf.lay.1,
    fun b hb => ⟨Nat.lt_of_lt_of_le (wf.lay.2 b hb).1 x.size, fun y ho => (wf.lay.2 b hb).2 y (x.owns b y (wf.lay.2 b hb).1 ho)⟩⟩

theorem new_wf (wf : WF w h c) (hb : Below w.heap.size w w') {id : Nat} (hid : id < h.length) (hf : h.at id = .free) {ob : AObj} {nb : Option Nat} {no : Nat} (hn : ∀ b, nb = some b → w.heap.size ≤ b)
    (hob : ObjOK w' (h.set id ob) (c.put id nb no) id ob) : WF w' (h.set id ob) (c.put id nb no) := by
  have x := new_ext (h := h) (c := c) hb hf ob (no := no) hn
  constructor
  · intro b y ho he
    have hlt : b < w.heap.size := wf.extlt b y he
    exact wf.disj b y (x.owns b y hlt ho) he
  · intro b y he
    exact Nat.lt_of_lt_of_le (wf.extlt b y he) hb.size
  · intro i hi
    by_cases hne : id = i
    · subst hne; rw [at_set_eq _ hid]; exact hob
    · rw [at_set_ne _ hne]
      by_cases hl : (h.at i).live
      · have ho := wf.obj i (by simpa using hi)
        exact ho.keep x (fun b hbk => hb.block b (ho.lt hl hbk)) (put_blk_ne _ _ (Ne.symm hne)) (put_off_ne _ _ (Ne.symm hne))
      · revert hl; cases h.at i <;> simp [AObj.live, ObjOK]
  · intro i j b hi hj h1 h2
    have hlt : ∀ k, id ≠ k → (Heap.at (h.set id ob) k).live → (c.put id nb no).blk k = some b → b < w.heap.size := by
      intro k hne hl hbk
      rw [at_set_ne _ hne] at hl
      rw [put_blk_ne _ _ (Ne.symm hne)] at hbk
      exact (wf.obj k (Heap.at_live rfl (live_ne_dead hl))).lt hl hbk
    by_cases h3 : id = i <;> by_cases h4 : id = j
    · exact h3.symm.trans h4
    · subst h3
      rw [put_blk_eq] at h1
      have := hn b h1
      have := hlt j h4 hj h2
      omega
    · subst h4
      rw [put_blk_eq] at h2
      have := hn b h2
      have := hlt i h3 hi h1
      omega
    · rw [at_set_ne _ h3] at hi
      rw [at_set_ne _ h4] at hj
      rw [put_blk_ne _ _ (Ne.symm h3)] at h1
      rw [put_blk_ne _ _ (Ne.symm h4)] at h2
      exact wf.inj i j b hi hj h1 h2
  · exact wf.lay_ext x

theorem asSl_sound {T : Ty} {v : V} {d : Value} (r : Rep w h c v d) {l : List T.den} (hs : asSl T v = some l) : Rep w h c (.sl T l .no) d := by
  unfold asSl at hs
  split at hs
  · cases hs
    cases r
    exact .sl (fun _ _ => undef) (Nat.le_refl _) (by unfold mx; exact Nat.zero_le _) (fun i j hi => by simp at hi) (fun i j x v hx => by simp at hx) (by simp) (by simp)
  · rename_i T' l' t
    split at hs
    · rename_i e
      subst e
      cases hs
      cases r with
      | sl f hcap hmx hc hr hnil hown => exact .sl f hcap hmx hc hr (by simp) (by simp)
    · cases hs
  · cases hs

theorem Wk.rep {u v : V} {d : Value} (k : Wk u v) (r : Rep w h c u d) : Rep w h c v d := by
  rcases k with rfl | ⟨T, l, rfl, e⟩
  · exact r
  · exact asSl_sound r e

theorem WkL.rep {us vs : List V} (k : WkL us vs) : ∀ {ds : List Value}, RepL w h c us ds → RepL w h c vs ds := by
  induction k with
  | nil => exact fun r => r
  | cons a _ ih =>
    intro ds r
    cases ds with
    | nil => have := r.1; simp at this
    | cons d ds => exact .cons (a.rep r.head) (ih r.tail)

theorem dec_rep {T : Ty} {cs : List V} {x : T.den} (hx : T.dec cs = some x) {ds : List Value} (r : RepL w h c cs ds) : RepL w h c (T.cells x) ds := (dec_wk T hx).rep r
end

section
variable {P : Program} {tt : TTab} {w : World} {h : Heap} {c : Cfg} {R : Type}

def Allocs (P : Program) (w : World) (h : Heap) (c : Cfg) (s : Sem Value) (ob : AObj) (mk : Nat → V) : Prop :=
  ∀ id, id < h.length → h.at id = .free → ∃ v' w' c', s.run P w = .ok v' w' ∧ WF w' (h.set id ob) c' ∧ Ext w h c w' (h.set id ob) c' ∧ Rep w' (h.set id ob) c' (mk id) v'

theorem below_alloc (w : World) (o : Obj) : Below w.heap.size w (w.alloc o) := (Below.refl _ _).alloc (Nat.le_refl _) o

theorem used_set {id : Nat} (hid : id < h.length) {ob : AObj} (ho : ob ≠ .free) : Used (h.set id ob) id := ⟨by simpa using hid, by rw [at_set_eq _ hid]; exact ho⟩

theorem alloc_cells (wf : WF w h c) {cs : List V} {ds : Array Value} (r : RepL w h c cs ds.toList) (e : TypeId) {s : Sem Value} (hrun : s.run P w = .ok (.pointer (some ⟨w.heap.size, 0, none⟩)) (w.alloc (.cells ds e))) :
    Allocs P w h c s (.cells cs) fun i => .ptr i 0 := by
  intro id hid hf
  have hb := below_alloc w (.cells ds e)
  have hn : ∀ b, some w.heap.size = some b → w.heap.size ≤ b := by intro b hb; cases hb; exact Nat.le_refl _
  have x := new_ext (h := h) (c := c) hb hf (.cells cs) (no := 0) hn
  have hob : ObjOK (w.alloc (.cells ds e)) (h.set id (.cells cs)) (c.put id (some w.heap.size) 0) id (.cells cs) := by
    refine ⟨w.heap.size, ds, e, put_blk_eq _ _ _, heap_alloc_new w _, r.mono x⟩
  exact ⟨_, _, _, hrun, new_wf wf hb hid hf hn hob, x, .ptr (used_set hid (by simp)) ⟨w.heap.size, rfl, fun _ => put_blk_eq _ _ _⟩⟩

theorem chunks_get (n : Nat) : ∀ (m : Nat) (l : List V) (i : Nat), i < m → (chunks n m l)[i]? = some ((l.drop (i * n)).take n)
  | m + 1, l, 0, _ => by simp [chunks]
  | m + 1, l, i + 1, h => by
    simp only [chunks, List.getElem?_cons_succ]
    rw [chunks_get n m (l.drop n) i (by omega), List.drop_drop]
    congr 3
    rw [Nat.add_mul]; omega

theorem chunks_len (n : Nat) : ∀ (m : Nat) (l : List V), (chunks n m l).length = m
  | 0, _ => rfl
  | m + 1, l => by simp [chunks, chunks_len n m]

theorem decAll_len {T : Ty} : ∀ {css : List (List V)} {l : List T.den}, decAll T css = some l → l.length = css.length
  | [], l, hd => by simp [decAll] at hd; subst hd; rfl
  | c :: cs, l, hd => by
    simp only [decAll] at hd
    split at hd
    · cases hd; rename_i h1 h2; simp [decAll_len h2]
    · cases hd

theorem decAll_get {T : Ty} : ∀ {css : List (List V)} {l : List T.den}, decAll T css = some l → ∀ (i : Nat) (x : T.den), l[i]? = some x → ∃ cs, css[i]? = some cs ∧ T.dec cs = some x
  | [], l, hd, i, x, hx => by simp [decAll] at hd; subst hd; simp at hx
  | c :: cs, l, hd, i, x, hx => by
    simp only [decAll] at hd
    split at hd
    · cases hd
      rename_i y ys h1 h2
      cases i with
      | zero => simp at hx; subst hx; exact ⟨c, rfl, h1⟩
      | succ i => simp at hx; exact decAll_get h2 i x hx
    · cases hd

theorem elems_rep {T : Ty} {n : Nat} {cs : List V} {ds : List Value} (r : RepL w h c cs ds) {l : List T.den} (hd : decAll T (chunks T.sz n cs) = some l) :
    ∀ (i j : Nat) (x : T.den) (v : V), l[i]? = some x → (T.cells x)[j]? = some v → Rep w h c v (ds.getD (i * T.sz + j) undef) := by
  intro i j x v hx hv
  have hl := decAll_len hd
  rw [chunks_len] at hl
  have hi : i < l.length := (List.getElem?_eq_some_iff.1 hx).1
  obtain ⟨cs', h1, h2⟩ := decAll_get hd i x hx
  rw [chunks_get _ _ _ _ (by omega)] at h1
  cases h1
  have rr := dec_rep h2 ((r.drop (i * T.sz)).take T.sz)
  have hj : j < (T.cells x).length := (List.getElem?_eq_some_iff.1 hv).1
  rw [T.cells_len] at hj
  have hlen := rr.1
  rw [T.cells_len] at hlen
  have hd' : ((ds.drop (i * T.sz)).take T.sz)[j]? = some (((ds.drop (i * T.sz)).take T.sz)[j]'(by omega)) := List.getElem?_eq_getElem _
  have := rr.2 j v _ hv hd'
  have e : ds.getD (i * T.sz + j) undef = ((ds.drop (i * T.sz)).take T.sz)[j]'(by omega) := by
    rw [List.getElem?_take, if_pos hj, List.getElem?_drop] at hd'
    simp [List.getD, hd']
  rw [e]; exact this

theorem madeCells_add (z : Array Value) (m : Nat) : (madeCells z (z.size + m)).toList = z.toList ++ (madeCells z m).toList := by
  simp only [madeCells, Array.toList_map, Array.toList_range, List.range_add, List.map_append, List.map_map]
  congr 1
  · apply List.ext_getElem
    · simp
    · intro i h1 h2
      simp only [List.length_map, List.length_range] at h1
      simp [Nat.mod_eq_of_lt h1, getElem!_pos z i h1]
  · apply List.map_congr_left
    intro k _
    simp

theorem made_rep {zs : List V} {z : Array Value} (r : RepL w h c zs z.toList) : ∀ n : Nat, RepL w h c (List.replicate n zs).flatten (madeCells z (n * z.size)).toList
  | 0 => by simp [madeCells]; exact .nil
  | n + 1 => by
    have e : (n + 1) * z.size = z.size + n * z.size := by rw [Nat.add_mul]; omega
    rw [e, madeCells_add z _, List.replicate_succ, List.flatten_cons]
    exact r.append (made_rep r n)

theorem not_owned_new (wf : WF w h c) {id : Nat} (ob : AObj) (no x : Nat) (hx : ∀ f, ob.from_ no = some f → ¬ f ≤ x) (hid : id < h.length) : Free (h.set id ob) (c.put id (some w.heap.size) no) w.heap.size x := by
  refine ⟨?_, fun he => Nat.lt_irrefl _ (wf.extlt _ _ he)⟩
  rintro ⟨i, f, h1, h2, h3⟩
  by_cases hne : id = i
  · subst hne
    rw [at_set_eq _ hid, put_off_eq] at h2
    exact hx f h2 h3
  · rw [at_set_ne _ hne, put_off_ne _ _ (Ne.symm hne)] at h2
    rw [put_blk_ne _ _ (Ne.symm hne)] at h1
    have hl : (h.at i).live := by revert h2; cases h.at i <;> simp [AObj.from_, AObj.live]
    have := (wf.obj i (Heap.at_live rfl (live_ne_dead hl))).lt hl h1
    omega

theorem alloc_slice (wf : WF w h c) {T : Ty} {n : Nat} {cs : List V} {ds : Array Value} (r : RepL w h c cs ds.toList) {l : List T.den} (hd : decAll T (chunks T.sz n cs) = some l) (hsz : ds.size = n * T.sz) (hn : n ≤ mx)
    (e : TypeId) (hte : TokE T 0 e) {s : Sem Value} (hrun : s.run P w = .ok (.slice (some ⟨w.heap.size, 0, none⟩) n n) (w.alloc (.cells ds e))) :
    Allocs P w h c s .tok fun i => .sl T l (.own i) := by
  intro id hid hf
  have hb := below_alloc w (.cells ds e)
  have hnb : ∀ b, some w.heap.size = some b → w.heap.size ≤ b := by intro b hb; cases hb; exact Nat.le_refl _
  have x := new_ext (h := h) (c := c) hb hf .tok (no := n * T.sz) hnb
  have hl : l.length = n := by rw [decAll_len hd, chunks_len]
  have hnew := heap_alloc_new w (.cells ds e)
  have hob : ObjOK (w.alloc (.cells ds e)) (h.set id .tok) (c.put id (some w.heap.size) (n * T.sz)) id .tok := by
    refine .inr ⟨w.heap.size, ds, e, (0, 0), put_blk_eq _ _ _, hnew, by rw [put_off_eq]; omega, .inl rfl⟩
  have hel := elems_rep (r.mono x) hd
  refine ⟨_, _, _, hrun, new_wf wf hb hid hf hnb hob, x, ?_⟩
  subst hl
  refine .sl (fun i j => ds.toList.getD (i * T.sz + j) undef) (Nat.le_refl _) hn (fun i j hi hj => ⟨w.heap.size, 0, rfl, ?_, ?_⟩) hel (by simp) (fun i he => ?_)
  · have hlt : i * T.sz + j < ds.size := by
      have := Nat.mul_le_mul_right T.sz hi
      rw [Nat.succ_mul] at this; omega
    rw [Nat.zero_add, cell_of_row _ _ _ _ _ _ hnew]
    simp [List.getD, hlt]
  · refine not_owned_new wf _ _ _ (fun f hf' => ?_) hid
    simp [AObj.from_] at hf'
    have := Nat.mul_le_mul_right T.sz hi
    rw [Nat.succ_mul] at this; omega
  · cases he
    refine ⟨used_set hid (by simp), fun _ => .inr ⟨w.heap.size, 0, ds, e, (0, 0), put_blk_eq _ _ _, rfl, by rw [put_off_eq, Nat.zero_add], hnew, by omega, hte⟩⟩

theorem alloc_vslice (wf : WF w h c) {n sz : Nat} {cs : List V} {ds : Array Value} (r : RepL w h c cs ds.toList) (hsz : cs.length = n * sz) (hn : n ≤ mx)
    (e : TypeId) {s : Sem Value} (hrun : s.run P w = .ok (.slice (some ⟨w.heap.size, 0, none⟩) n n) (w.alloc (.cells ds e))) :
    Allocs P w h c s .dead fun _ => .vsl n cs := by
  intro id hid hf
  have hb := below_alloc w (.cells ds e)
  have hnb : ∀ b, some w.heap.size = some b → w.heap.size ≤ b := by intro b hb; cases hb; exact Nat.le_refl _
  have x := new_ext (h := h) (c := c) hb hf .dead (no := 0) hnb
  have hnew := heap_alloc_new w (.cells ds e)
  refine ⟨_, _, _, hrun, new_wf wf hb hid hf hnb trivial, x, ?_⟩
  have r' := r.mono x
  have hl := r.1
  refine .vsl hsz hn (fun j => ds.toList.getD j undef) (fun j hj => ⟨w.heap.size, 0, rfl, ?_, ?_⟩) (fun j v hv => ?_)
  · rw [Nat.zero_add, cell_of_row _ _ _ _ _ _ hnew]
    have hlt : j < ds.size := by simp at hl; omega
    simp [List.getD, hlt]
  · exact not_owned_new wf _ _ _ (fun f hf' => by simp [AObj.from_] at hf') hid
  · have hj : j < cs.length := (List.getElem?_eq_some_iff.1 hv).1
    have hlt : j < ds.toList.length := by omega
    refine r'.2 j v _ hv ?_
    simp only [List.getD, List.getElem?_eq_getElem hlt, Option.getD_some]

end

section
variable {P : Program} {tt : TTab} {w : World} {h : Heap} {c : Cfg} {R : Type}

theorem frozen_none {w : World} {b : Nat} {arr : Array Value} {e : TypeId} (hb : w.heap[b]? = some (.cells arr e (0, 0))) (x : Nat) : w.frozen? ⟨b, x, none⟩ = false := by
  simp [World.frozen?, hb]

theorem alloc_row2 (wf : WF w h c) {T : Ty} {l : List T.den} {ds : Array Value} {w' : World} (hb : Below w.heap.size w w') {e : TypeId} {fz : Nat × Nat} (hnew : w'.heap[w.heap.size]? = some (.cells ds e fz))
    (hfz : ∀ x, (x < ds.size ∨ T.isMail = true) → w'.frozen? ⟨w.heap.size, x, none⟩ = false) {cap : Nat} (hcap : l.length ≤ cap) (hmx : cap ≤ mx) (hsz : cap * T.sz ≤ ds.size)
    (hr : ∀ (n j : Nat) (x : T.den) (v : V), l[n]? = some x → (T.cells x)[j]? = some v → ∃ d, ds[n * T.sz + j]? = some d ∧ Rep w h c v d)
    {s : Sem Value} (hrun : s.run P w = .ok (.slice (some ⟨w.heap.size, 0, none⟩) l.length cap) w') :
    Allocs P w h c s (.row T l) fun i => .row i l.length := by
  intro id hid hf
  have hnb : ∀ b, some w.heap.size = some b → w.heap.size ≤ b := by intro b hb; cases hb; exact Nat.le_refl _
  have x := new_ext (h := h) (c := c) hb hf (.row T l) (no := 0) hnb
  have hm : l.length * T.sz ≤ cap * T.sz := Nat.mul_le_mul_right _ hcap
  have hob : ObjOK w' (h.set id (.row T l)) (c.put id (some w.heap.size) 0) id (.row T l) := by
    refine .inr ⟨w.heap.size, ds, e, fz, put_blk_eq _ _ _, hnew, by rw [put_off_eq]; omega, hfz, fun n j y v hy hv => ?_⟩
    obtain ⟨d, h1, h2⟩ := hr n j y v hy hv
    exact ⟨d, by rw [put_off_eq, Nat.zero_add]; exact h1, h2.mono x⟩
  refine ⟨_, _, _, hrun, new_wf wf hb hid hf hnb hob, x, ?_⟩
  refine .row (used_set hid (by simp)) (by omega) ⟨_, _, rfl, ⟨hcap, hmx, fun _ => ⟨_, rfl⟩⟩, fun T' l' he => ?_⟩
  rw [at_set_eq _ hid] at he
  cases he
  exact ⟨rfl, hcap, hmx, .inr ⟨w.heap.size, ds, e, fz, put_blk_eq _ _ _, by rw [put_off_eq], hnew, by rw [put_off_eq]; omega⟩⟩

theorem alloc_row (wf : WF w h c) {T : Ty} {l : List T.den} {ds : Array Value} {w' : World} (hb : Below w.heap.size w w') {e : TypeId} {fz : Nat × Nat} (hnew : w'.heap[w.heap.size]? = some (.cells ds e fz))
    (hfz : ∀ x, (x < ds.size ∨ T.isMail = true) → w'.frozen? ⟨w.heap.size, x, none⟩ = false) {cap : Nat} (hcap : l.length ≤ cap) (hmx : cap ≤ mx) (hsz : cap * T.sz ≤ ds.size)
    (hr : ∀ (n j : Nat) (x : T.den) (v : V), l[n]? = some x → (T.cells x)[j]? = some v → ∃ d, ds[n * T.sz + j]? = some d ∧ ∀ (w : World) (h : Heap) (c : Cfg), Rep w h c v d)
    {s : Sem Value} (hrun : s.run P w = .ok (.slice (some ⟨w.heap.size, 0, none⟩) l.length cap) w') :
    Allocs P w h c s (.row T l) fun i => .row i l.length := by
  intro id hid hf
  have hnb : ∀ b, some w.heap.size = some b → w.heap.size ≤ b := by intro b hb; cases hb; exact Nat.le_refl _
  have x := new_ext (h := h) (c := c) hb hf (.row T l) (no := 0) hnb
  have hm : l.length * T.sz ≤ cap * T.sz := Nat.mul_le_mul_right _ hcap
  have hob : ObjOK w' (h.set id (.row T l)) (c.put id (some w.heap.size) 0) id (.row T l) := by
    refine .inr ⟨w.heap.size, ds, e, fz, put_blk_eq _ _ _, hnew, by rw [put_off_eq]; omega, hfz, fun n j y v hy hv => ?_⟩
    obtain ⟨d, h1, h2⟩ := hr n j y v hy hv
    exact ⟨d, by rw [put_off_eq, Nat.zero_add]; exact h1, h2 _ _ _⟩
  refine ⟨_, _, _, hrun, new_wf wf hb hid hf hnb hob, x, ?_⟩
  refine .row (used_set hid (by simp)) (by omega) ⟨_, _, rfl, ⟨hcap, hmx, fun _ => ⟨_, rfl⟩⟩, fun T' l' he => ?_⟩
  rw [at_set_eq _ hid] at he
  cases he
  exact ⟨rfl, hcap, hmx, .inr ⟨w.heap.size, ds, e, fz, put_blk_eq _ _ _, by rw [put_off_eq], hnew, by rw [put_off_eq]; omega⟩⟩

theorem buildSlice_sound (T : TOK P tt) (wf : WF w h c) {t len : Nat} {parts : Array (Nat × Operand)} {ρ : Operand → V} {ρ' : Operand → Value} (hρ : ∀ x, Rep w h c (ρ x) (ρ' x)) {k : AObj → (Nat → V) → Option R} {r : R}
    (hk : opA tt (.buildSlice t len parts) ρ k = some r) : ∃ ob mk, k ob mk = some r ∧ ob ≠ .free ∧ Allocs P w h c (Instr.buildSlice t len (parts.map fun (i, x) => (i, ρ' x))) ob mk := by
  simp only [opA] at hk
  split at hk
  · rename_i e hd
    split at hk
    · cases hk
    · rename_i hc0
      simp only [Bool.or_eq_true, Bool.not_eq_true', decide_eq_true_eq, not_or, Bool.not_eq_false, Nat.not_lt] at hc0
      obtain ⟨⟨hsz, hsm⟩, hok⟩ := hc0
      have hu := und_of T hd
      simp only [TD.Is] at hu
      have hse := T.sizeOf (w := w) hok
      obtain ⟨z, hz, hzs, hzr⟩ := T.zero (w := w) hok
      have hparts := parts_map hρ parts.toList
      have hmade := made_rep (w := w) (h := h) (c := c) (hzr w h c) len
      rw [hzs] at hmade
      have key : ∀ cs, fillV ((List.replicate len (tt.at e).zero).flatten) (parts.toList.map fun (i, x) => (i * (tt.at e).size, (tt.at e).size, ρ x)) = some cs →
          ∃ ds : Array Value, RepL w h c cs ds.toList ∧ ds.size = len * (tt.at e).size ∧
            (Instr.buildSlice t len (parts.map fun (i, x) => (i, ρ' x))).run P w = .ok (.slice (some ⟨w.heap.size, 0, none⟩) len len) (w.alloc (.cells ds e)) := by
        intro cs hf
        obtain ⟨out', h1, h2, h3⟩ := fill_sound (w := w) (h := h) (c := c) (fun i => some (i * (tt.at e).size, (tt.at e).size)) (parts.toList.map fun p => (p.1, ρ p.2)) (parts.toList.map fun p => (p.1, ρ' p.2))
          ((List.replicate len (tt.at e).zero).flatten) (madeCells z.cells (len * (tt.at e).size)) cs hparts.1 hparts.2 hmade (by
            rw [← hf, List.map_map]
            congr 1) (by rw [size_madeCells]; omega)
        rw [size_madeCells] at h3
        refine ⟨out', h2, h3, ?_⟩
        have hlim : ¬ (len * (tt.at e).size > 2 ^ 24) := by omega
        simp only [Instr.buildSlice, Sem.run_bind, run_underlying hu, Result.andThen_ok, hse, if_neg hlim]
        by_cases hl0 : len * (tt.at e).size = 0
        · simp only [hl0, if_true, Array.toList_map]
          have e0 : madeCells z.cells (len * (tt.at e).size) = #[] := by rw [hl0]; simp [madeCells]
          rw [e0] at h1
          simp only [Array.range_zero', Array.map_empty]
          rw [h1]
          simp [newRow]
        · simp only [if_neg hl0, Sem.run_bind, hz, Result.andThen_ok, Sem.run_pure, Array.toList_map]
          have e1 : (Array.range (len * (tt.at e).size)).map (z.cells[· % z.cells.size]!) = madeCells z.cells (len * (tt.at e).size) := rfl
          rw [e1, h1]
          simp [newRow]
      split at hk
      · rename_i cs T' hf hty
        split at hk
        · rename_i hT
          obtain ⟨ds, g1, g2, g3⟩ := key cs hf
          split at hk
          · rename_i hrow
            simp only [Bool.and_eq_true, decide_eq_true_eq] at hrow
            obtain ⟨_, rfl⟩ := hrow
            have hds : ds.size = 0 := by omega
            have hnew := heap_alloc_new w (.cells ds e)
            exact ⟨_, _, hk, by simp, alloc_row (T := T') (l := []) (cap := 0) wf (below_alloc w _) hnew (fun x _ => frozen_none hnew x) (Nat.le_refl _) (by unfold mx; omega) (by omega) (fun n j x v hx => by simp at hx) g3⟩
          split at hk
          · split at hk <;> try (first | cases hk)
            rename_i l hl
            rw [← hT] at hl g2
            have hlen : l.length = len := by rw [decAll_len hl, chunks_len]
            have hnew := heap_alloc_new w (.cells ds e)
            have hmx : len ≤ mx := by unfold mx; have : len ≤ len * (tt.at e).size := Nat.le_mul_of_pos_right _ (by omega); omega
            have hel := elems_rep g1 hl
            exact ⟨_, _, hk, by simp, alloc_row2 (T := T') (l := l) (cap := l.length) wf (below_alloc w _) hnew (fun x _ => frozen_none hnew x) (Nat.le_refl _) (by omega) (by rw [hlen]; omega) (fun n j x v hx hv => by
              have hn : n < l.length := (List.getElem?_eq_some_iff.1 hx).1
              have hj : j < T'.sz := by rw [← T'.cells_len x]; exact (List.getElem?_eq_some_iff.1 hv).1
              have hlt : n * T'.sz + j < ds.size := by
                have := Nat.mul_le_mul_right T'.sz (show n + 1 ≤ len by omega)
                rw [Nat.succ_mul] at this; omega
              have := hel n j x v hx hv
              refine ⟨_, ?_, this⟩
              simp [List.getD, hlt]) (by rw [hlen]; exact g3)⟩
          split at hk
          · rename_i l hl
            rw [← hT] at hl g2
            exact ⟨_, _, hk, by simp, alloc_slice wf g1 hl g2 (by unfold mx; have : len ≤ len * (tt.at e).size := Nat.le_mul_of_pos_right _ (by omega); omega) e (fun hT' => ⟨rfl, T.u8s e (by rw [hty, hT'])⟩) g3⟩
          · exact ⟨_, _, hk, by simp, alloc_vslice wf (sz := (tt.at e).size) g1 (by have := g1.1; simp at this; omega) (by unfold mx; have : len ≤ len * (tt.at e).size := Nat.le_mul_of_pos_right _ (by omega); omega) e g3⟩
        · cases hk
      · rename_i cs hf hty
        obtain ⟨ds, g1, g2, g3⟩ := key cs hf
        exact ⟨_, _, hk, by simp, alloc_vslice wf (sz := (tt.at e).size) g1 (by have := g1.1; simp at this; omega) (by unfold mx; have : len ≤ len * (tt.at e).size := Nat.le_mul_of_pos_right _ (by omega); omega) e g3⟩
      · cases hk
  · cases hk

theorem allocs_run {o : Oper} {ρ' : Operand → Value} {s : Sem Value} {ob : AObj} {mk : Nat → V} (he : execOp ρ' o = (do pure (.value (← s)))) (ha : Allocs P w h c s ob mk) :
    ∀ id, id < h.length → h.at id = .free → ∃ v' w' c', (execOp ρ' o).run P w = .ok (.value v') w' ∧ WF w' (h.set id ob) c' ∧ Ext w h c w' (h.set id ob) c' ∧ Rep w' (h.set id ob) c' (mk id) v' := by
  intro id hid hf
  obtain ⟨v', w', c', h1, h2⟩ := ha id hid hf
  exact ⟨v', w', c', by rw [he]; simp [h1], h2⟩

theorem run_makeSlice_tt (T : TOK P tt) {t e : Nat} (hd : (tt.at t).d = .slice e) (hok : tt.ok e = true) {i j : IntKind} {a : Int} (h0 : 0 ≤ a) (hb : a * (tt.at e).bytes ≤ 140737488355328) (hmx : a ≤ 9223372036854775807) :
    ∃ z : Value, z.cells.size = (tt.at e).size ∧ (∀ (w : World) (h : Heap) (c : Cfg), RepL w h c (tt.at e).zero z.cells.toList) ∧
      (Instr.makeSlice t (.int i a) (.int j a)).run P w = .ok (.slice (some ⟨w.heap.size, 0, none⟩) a.toNat a.toNat) (w.alloc (.cells (madeCells z.cells (a.toNat * (tt.at e).size)) e)) := by
  have hu := und_of T hd
  simp only [TD.Is] at hu
  obtain ⟨inf, z, hi, hs, hby, hz, hzs, hr⟩ := T.info e hok
  have hrun := run_make (P := P) w t e inf z hu hi hz i j a a h0 (Int.le_refl _) (by rw [hby, Int.mul_comm]; omega) hmx
  rw [hs] at hrun
  exact ⟨z, by omega, hr, hrun⟩

theorem zero_made {z : Array Value} (n : Nat) {i j : Nat} (hi : i < n) (hj : j < z.size) : (madeCells z (n * z.size))[i * z.size + j]? = some (z[j]) := by
  have hlt : i * z.size + j < n * z.size := by
    have := Nat.mul_le_mul_right z.size hi
    rw [Nat.succ_mul] at this; omega
  simp only [madeCells, Array.getElem?_map]
  rw [Array.getElem?_eq_getElem (by simpa using hlt)]
  simp only [Array.getElem_range, Option.map_some]
  congr 1
  rw [Nat.mul_comm, Nat.mul_add_mod, Nat.mod_eq_of_lt hj, getElem!_pos z j hj]

theorem run_stringToBytes (e : TypeId) (s : ByteArray) : ∃ (cap : Nat) (w' : World), (Conv.stringToBytes e s).run P w = .ok (.slice (some ⟨w.heap.size, 0, none⟩) s.size cap) w' ∧ Below w.heap.size w w' ∧ s.size ≤ cap ∧ (s.size ≤ mx → cap ≤ mx) ∧
    ∃ ds : Array Value, w'.heap[w.heap.size]? = some (.cells ds e (ds.size, ds.size + 1)) ∧ ds.size = cap ∧ ∀ (i : Nat) (b : UInt8), s.data.toList[i]? = some b → ds[i]? = some (.int .u8 b.toNat) := by
  let cap := (Question.appendCap s.size 0 e).cut (w.tape w.drawn (.appendCap s.size 0 e))
  have hcap : s.size ≤ cap := by simp only [cap, Question.cut]; omega
  let ds : Array Value := (s.data.map fun b => Value.int .u8 b.toNat) ++ Array.replicate (cap - s.size) (.int .u8 0)
  have hds : ds.size = cap := by
    simp only [ds, Array.size_append, Array.size_map, Array.size_replicate]
    have : s.data.size = s.size := rfl
    omega
  refine ⟨cap, (w.drew.alloc (.cells ds e)).freeze ⟨w.heap.size, ds.size, none⟩ 1, ?_, ?_, hcap, fun hs => ?_, ds, ?_, hds, fun i b hb => ?_⟩
  · have hf : (Question.appendCap s.size 0 e).forced = false := rfl
    simp only [Conv.stringToBytes, Sem.run_bind, run_choose, hf]
    simp only [Bool.false_eq_true, if_false, Result.andThen_ok, newRow, Sem.run_bind, run_newObj, Sem.run_pure]
    have hsh : (w.drew.alloc (.cells ds e)).shape? w.heap.size = some (e, ds.size) := by
      have := heap_alloc_new w.drew (.cells ds e)
      simp only [World.shape?]
      rw [show (w.drew.alloc (.cells ds e)).heap[w.heap.size]? = some (.cells ds e) from this]
    show ((markStringish ⟨w.heap.size, 0, none⟩).run P (w.drew.alloc (.cells ds e))).andThen _ = _
    simp only [markStringish, Sem.run_bind, run_shape, hsh, Result.andThen_ok, run_freeze]
    rfl
  · refine ⟨rfl, rfl, rfl, ?_, fun k hk => ?_⟩
    · have : ((w.drew.alloc (.cells ds e)).freeze ⟨w.heap.size, ds.size, none⟩ 1).heap.size = w.heap.size + 1 := by simp [World.freeze]
      omega
    · simp only [World.freeze]
      rw [if_neg (by decide)]
      simp only [Array.getElem?_modify]
      rw [if_neg (by show ¬ w.heap.size = k; omega)]
      exact Below.heap_alloc w.drew _ k hk
  · have hlt : w.tape w.drawn (Question.appendCap s.size 0 e) % (2 ^ 63 - s.size) < 2 ^ 63 - s.size := Nat.mod_lt _ (by unfold mx at hs; omega)
    simp only [cap, Question.cut]
    unfold mx at hs ⊢
    omega
  · simp only [World.freeze]
    rw [if_neg (by decide)]
    simp only [Array.getElem?_modify]
    have := heap_alloc_new w.drew (.cells ds e)
    rw [show (w.drew.alloc (.cells ds e)).heap[w.heap.size]? = some (.cells ds e) from this]
    simp
  · have hlt : i < s.data.size := by
      have := (List.getElem?_eq_some_iff.1 hb).1
      simpa using this
    simp only [ds]
    rw [Array.getElem?_append_left (by simpa using hlt)]
    simp only [Array.getElem?_map]
    have : s.data[i]? = some b := by simpa using hb
    rw [this]; rfl

theorem opA_sound (T : TOK P tt) (wf : WF w h c) {o : Oper} {ρ : Operand → V} {ρ' : Operand → Value} (hρ : ∀ x, Rep w h c (ρ x) (ρ' x)) {k : AObj → (Nat → V) → Option R} {r : R}
    (hk : opA tt o.op ρ k = some r) : ∃ ob mk, k ob mk = some r ∧ ob ≠ .free ∧ ∀ id, id < h.length → h.at id = .free →
      ∃ v' w' c', (execOp ρ' o).run P w = .ok (.value v') w' ∧ WF w' (h.set id ob) c' ∧ Ext w h c w' (h.set id ob) c' ∧ Rep w' (h.set id ob) c' (mk id) v' := by
  obtain ⟨dst, op, type, pos, after, guard⟩ := o
  cases op <;> (try simp only [opA] at hk) <;> try (first | cases hk)
  case alloc t =>
    split at hk
    · rename_i hb
      obtain ⟨rfl, hz0, hok⟩ := T.blds t hb
      obtain ⟨z, hz, hzs, hzr⟩ := T.zero (w := w) hok
      refine ⟨_, _, hk, by simp, allocs_run (s := Instr.alloc lay0.bld true (.tuple #[])) rfl ?_⟩
      have hzr := hzr w h c
      rw [hz0] at hzr
      have hcs : z.cells = #[.pointer none, .slice none 0 0] := by
        generalize z.cells = q at hzr
        obtain ⟨l⟩ := q
        match l, hzr with
        | [p, d], hzr =>
          have r0 := hzr.head
          have r1 := hzr.tail.head
          cases r0; cases r1; rfl
        | [], hzr => have := hzr.1; simp at this
        | [_], hzr => have := hzr.1; simp at this
        | _ :: _ :: _ :: _, hzr => have := hzr.1; simp at this
      intro id hid hf
      have hbel := below_alloc w (.cells #[.pointer none, .slice none 0 0] lay0.bld)
      have hn : ∀ b, some w.heap.size = some b → w.heap.size ≤ b := by intro b hb; cases hb; exact Nat.le_refl _
      have x := new_ext (h := h) (c := c) hbel hf (.bld .nilsl) (no := 0) hn
      have hob : ObjOK (w.alloc (.cells #[.pointer none, .slice none 0 0] lay0.bld)) (h.set id (.bld .nilsl)) (c.put id (some w.heap.size) 0) id (.bld .nilsl) :=
        ⟨w.heap.size, _, _, put_blk_eq _ _ _, heap_alloc_new w _, .inl rfl, .nilsl⟩
      exact ⟨_, _, _, by simp [Instr.alloc, hz, newVar, newRow, hcs], new_wf wf hbel hid hf hn hob, x, .ptr (used_set hid (by simp)) ⟨w.heap.size, rfl, fun _ => put_blk_eq _ _ _⟩⟩
    split at hk
    · rename_i hok
      obtain ⟨z, hz, hzs, hzr⟩ := T.zero (w := w) hok
      exact ⟨_, _, hk, by simp, allocs_run (s := Instr.alloc t true (.tuple #[])) rfl (alloc_cells wf (hzr w h c) t (by simp [Instr.alloc, hz, newVar, newRow]))⟩
    · cases hk
  case box t x =>
    split at hk
    · rename_i cs hcs
      split at hk
      · obtain ⟨rv, _, _⟩ := flatK_sound (hρ x) hcs
        exact ⟨_, _, hk, by simp, allocs_run (s := Instr.box t (ρ' x)) rfl (alloc_cells wf rv t (by simp [Instr.box, newVar, newRow]))⟩
      · cases hk
    · cases hk
  case buildSlice t len parts =>
    obtain ⟨ob, mk, h1, h0, h2⟩ := buildSlice_sound T wf hρ hk
    exact ⟨ob, mk, h1, h0, allocs_run rfl h2⟩
  case makeSlice t n cc =>
    split at hk
    · rename_i e i a j b hd hn hc
      split at hk
      · rename_i T' hty
        split at hk
        · rename_i z hz
          split at hk
          · rename_i hcond
            simp only [Bool.and_eq_true, decide_eq_true_eq] at hcond
            obtain ⟨hsz, hok⟩ := hcond
            obtain ⟨hb, hk2⟩ := chk_some hk
            clear hk
            simp only [Bool.and_eq_true, decide_eq_true_eq] at hb
            obtain ⟨⟨⟨h0, rfl⟩, hby⟩, hmx⟩ := hb
            have rn := hρ n
            have rc := hρ cc
            rw [hn] at rn; rw [hc] at rc
            obtain ⟨en, hn1, hn2⟩ := rn.int_inv
            obtain ⟨ec, hc1, hc2⟩ := rc.int_inv
            obtain ⟨zv, g1, g2, g3⟩ := run_makeSlice_tt (w := w) (i := i) (j := j) T hd hok h0 hby (by omega)
            have hnew := heap_alloc_new w (.cells (madeCells zv.cells (a.toNat * (tt.at e).size)) e)
            have hs : (Instr.makeSlice t (ρ' n) (ρ' cc)).run P w = .ok (.slice (some ⟨w.heap.size, 0, none⟩) (List.replicate a.toNat z).length a.toNat) (w.alloc (.cells (madeCells zv.cells (a.toNat * (tt.at e).size)) e)) := by
              rw [en, ec, g3]; simp
            have := alloc_row (T := T') (l := List.replicate a.toNat z) wf (below_alloc w _) hnew (fun x _ => frozen_none hnew x) (by simp) (by unfold mx; omega) (by rw [size_madeCells, hsz]; exact Nat.le_refl _) (fun n' j' x v hx hv => by
              simp only [List.getElem?_replicate] at hx
              split at hx
              · rename_i hlt
                cases hx
                have hj : j' < T'.sz := by rw [← T'.cells_len z]; exact (List.getElem?_eq_some_iff.1 hv).1
                have hj' : j' < zv.cells.size := by omega
                have hm := zero_made (z := zv.cells) a.toNat hlt hj'
                rw [g1] at hm
                rw [hsz]
                refine ⟨_, hm, fun w h c => ?_⟩
                exact (dec_rep hz (g2 w h c)).2 j' v _ hv (by simp [hj'])
              · cases hx) hs
            have e2 : (List.replicate a.toNat z).length = a.toNat := List.length_replicate
            rw [e2] at this
            exact ⟨_, _, hk2, by simp, allocs_run (o := ⟨dst, .makeSlice t n cc, type, pos, after, guard⟩) rfl this⟩
          · cases hk
        · cases hk
      · cases hk
    · cases hk
  case convert s d x =>
    split at hk
    · rename_i e t hs hd hx
      split at hk
      · rename_i he
        have rx := hρ x
        rw [hx] at rx
        obtain ⟨bs, hv, rfl, hl⟩ := rx.str_inv
        have us := und_of T hs
        have ud := und_of T hd
        have ue := und_of T he
        simp only [TD.Is] at us ud ue
        obtain ⟨cap, w', g1, g2, g3, g4, ds, g5, g6, g7⟩ := run_stringToBytes (P := P) (w := w) e bs
        obtain ⟨l, hl'⟩ : ∃ l : List Int, l = bs.data.toList.map fun b => (b.toNat : Int) := ⟨_, rfl⟩
        have hlen : l.length = bs.size := by rw [hl', List.length_map, size_data]
        have hget : ∀ (n : Nat) (z : Int), l[n]? = some z → ∃ b : UInt8, bs.data.toList[n]? = some b ∧ z = b.toNat := fun n z hz => by
          rw [hl', List.getElem?_map] at hz
          cases hb : bs.data.toList[n]? with
          | none => rw [hb] at hz; cases hz
          | some b => rw [hb] at hz; simp at hz; exact ⟨b, rfl, hz.symm⟩
        have hrun : (convert s d (ρ' x)).run P w = .ok (.slice (some ⟨w.heap.size, 0, none⟩) l.length cap) w' := by
          rw [hv, hlen]
          simp only [convert, Sem.run_bind, run_underlying us, run_underlying ud, run_underlying ue, Result.andThen_ok, g1]
        have := alloc_row (T := .int .u8) (l := l) wf g2 g5 (fun y hy => by
            have hy : y < _ := hy.resolve_right (by simp [Ty.isMail])
            simp only [World.frozen?, g5]
            simp; omega) (cap := cap) (by show l.length ≤ cap; omega) (g4 hl) (by simp [Ty.sz]; omega) (fun n j y v hy hv => by
            obtain ⟨b, h1, rfl⟩ := hget n y hy
            have hj : j < 1 := by
              have := (List.getElem?_eq_some_iff.1 hv).1
              simpa [Ty.cells] using this
            obtain rfl : j = 0 := by omega
            simp [Ty.cells] at hv
            subst hv
            exact ⟨_, by simpa [Ty.sz] using g7 n b h1, fun w h c => .int (has_byte _ (UInt8.toNat_lt b))⟩) hrun
        have e2 : List.length (α := Int) l = bs.data.toList.length := by rw [hlen, size_data]
        refine ⟨.row (.int .u8) l, fun i => .row i (List.length (α := Int) l), ?_, by simp, allocs_run (o := ⟨dst, .convert s d x, type, pos, after, guard⟩) rfl this⟩
        rw [e2, hl']; exact hk
      · cases hk
    · cases hk
  case makeMap t rsv =>
    split at hk <;> try (first | cases hk)
    rename_i hrs
    split at hk <;> try (first | cases hk)
    rename_i kt vt hd
    split at hk <;> try (first | cases hk)
    rename_i K V' hK hV
    split at hk <;> try (first | cases hk)
    rename_i hf
    simp only [Bool.and_eq_true] at hf
    have hu := und_of T hd
    simp only [TD.Is] at hu
    refine ⟨_, _, hk, by simp, fun id hid hfr => ?_⟩
    have hb := below_alloc w (.map #[] 0)
    have hnb : ∀ b, some w.heap.size = some b → w.heap.size ≤ b := by intro b hb; cases hb; exact Nat.le_refl _
    have x' := new_ext (h := h) (c := c) hb hfr (.amap K V' []) (no := 0) hnb
    have hob : ObjOK (w.alloc (.map #[] 0)) (h.set id (.amap K V' [])) (c.put id (some w.heap.size) 0) id (.amap K V' []) :=
      ⟨w.heap.size, #[], 0, put_blk_eq _ _ _, heap_alloc_new w _, (fits_one hf.1).2, elFits_one hf.2, rfl, fun j q e hq => by simp at hq⟩
    refine ⟨.map (some w.heap.size), _, _, ?_, new_wf wf hb hid hfr hnb hob, x', .map (used_set hid (by simp)) ⟨w.heap.size, rfl, fun _ => put_blk_eq _ _ _⟩⟩
    cases rsv with
    | none => simp [execOp, Instr.makeMap]
    | some x =>
      have rx := hρ x
      unfold reserveOk at hrs
      simp only at hrs
      split at hrs
      · rename_i i n hx
        rw [hx] at rx
        simp [execOp, Instr.makeMap, run_underlying hu, rx.int_inv.1, asInt, asIntOf]
      · cases hrs
  case range t x =>
    split at hk
    · rename_i s hd hx
      have rx := hρ x
      rw [hx] at rx
      obtain ⟨bs, hv, rfl, hl⟩ := rx.str_inv
      have hu := und_of T hd
      simp only [TD.Is] at hu
      refine ⟨_, _, hk, by simp, fun id hid hf => ?_⟩
      have hb := below_alloc w (.stringIter bs 0)
      have hnb : ∀ b, some w.heap.size = some b → w.heap.size ≤ b := by intro b hb; cases hb; exact Nat.le_refl _
      have x' := new_ext (h := h) (c := c) hb hf (.iter bs.data.toList 0) (no := 0) hnb
      have hob : ObjOK (w.alloc (.stringIter bs 0)) (h.set id (.iter bs.data.toList 0)) (c.put id (some w.heap.size) 0) id (.iter bs.data.toList 0) :=
        ⟨w.heap.size, bs, put_blk_eq _ _ _, heap_alloc_new w _, rfl, hl⟩
      refine ⟨.pointer (some ⟨w.heap.size, 0, none⟩), _, _, ?_, new_wf wf hb hid hf hnb hob, x', .ptr (used_set hid (by simp)) ⟨w.heap.size, rfl, fun _ => put_blk_eq _ _ _⟩⟩
      simp [execOp, hv, Instr.range, run_underlying hu]
    · cases hk
end

section
variable {P : Program} {tt : TTab} {w w' : World} {h : Heap} {c : Cfg} {R : Type}

structure Wrote (w w' : World) (b : Nat) (cur : Array Value) (e : TypeId) (fz : Nat × Nat) : Prop where
  os : w'.os = w.os
  tape : w'.tape = w.tape
  output : w'.output = w.output
  size : w'.heap.size = w.heap.size
  other : ∀ k, k ≠ b → w'.heap[k]? = w.heap[k]?
  here : w'.heap[b]? = some (.cells cur e fz)

theorem frozen_of {w : World} {b : Nat} {arr : Array Value} {e : TypeId} {lo hi : Nat} (hb : w.heap[b]? = some (.cells arr e (lo, hi))) (x : Nat) : w.frozen? ⟨b, x, none⟩ = (decide (lo ≤ x) && decide (x < hi)) := by
  simp [World.frozen?, hb]

theorem frozen_low {w : World} {b : Nat} {arr : Array Value} {e : TypeId} {fz : Nat × Nat} (hb : w.heap[b]? = some (.cells arr e fz)) {o x : Nat} (hf : fz.1 = fz.2 ∨ fz.2 ≤ o) (hx : o ≤ x) : w.frozen? ⟨b, x, none⟩ = false := by
  obtain ⟨lo, hi⟩ := fz
  rw [frozen_of hb]
  simp only at hf
  rcases hf with rfl | hf
  · by_cases h : lo ≤ x
    · simp [h]
    · simp [h]
  · have : ¬ x < hi := by omega
    simp [this]

theorem run_storeCells_gen (b o : Nat) (e : TypeId) (fz : Nat × Nat) : ∀ (vs : List Value) (i : Nat) (cur : Array Value) (w : World), w.heap[b]? = some (.cells cur e fz) → o + i + vs.length ≤ cur.size →
    (∀ x, o + i ≤ x → x < o + i + vs.length → w.frozen? ⟨b, x, none⟩ = false) → Ones vs →
    ∃ (w' : World) (cur' : Array Value), (storeCells ⟨b, o, none⟩ vs i).run P w = .ok () w' ∧ Wrote w w' b cur' e fz ∧ cur'.toList = cur.toList.take (o + i) ++ vs ++ cur.toList.drop (o + i + vs.length)
  | [], i, cur, w, hb, _, _, _ => ⟨w, cur, by simp [storeCells], ⟨rfl, rfl, rfl, rfl, fun _ _ => rfl, hb⟩, by simp⟩
  | v :: vs, i, cur, w, hb, hs, hf, h1 => by
    simp only [List.length_cons] at hs hf
    have hv : v.oneCell' = true := h1 v (by simp)
    have hlt : o + i < cur.size := by omega
    have hcell : w.cell? ⟨b, o + i, none⟩ = some cur[o + i] := by rw [cell_of_row w b _ cur e fz hb]; exact Array.getElem?_eq_getElem hlt
    have hfz := hf (o + i) (Nat.le_refl _) (by omega)
    have hstore : (store ((⟨b, o, none⟩ : Addr).add i) v).run P w = .ok () (w.setCell ⟨b, o + i, none⟩ v) := by
      rw [add_off, run_store P w _ v _ hv, hcell]
      simp [hfz]
    have hb' : (w.setCell ⟨b, o + i, none⟩ v).heap[b]? = some (.cells (cur.setIfInBounds (o + i) v) e fz) := by
      simp [World.setCell, Array.getElem?_modify, hb]
    obtain ⟨w', cur', g1, g2, g3⟩ := run_storeCells_gen b o e fz vs (i + 1) (cur.setIfInBounds (o + i) v) (w.setCell ⟨b, o + i, none⟩ v) hb' (by simp; omega)
      (fun x hx1 hx2 => by rw [World.frozen?_setCell]; exact hf x (by omega) (by omega)) (fun d hd => h1 d (by simp [hd]))
    refine ⟨w', cur', ?_, ⟨g2.os, g2.tape, g2.output, by rw [g2.size]; simp, fun k hk => ?_, g2.here⟩, ?_⟩
    · simp only [storeCells, Sem.run_bind, hstore, Result.andThen_ok, g1]
    · rw [g2.other k hk]; exact heap_setCell_other w _ k v hk
    · rw [g3]
      have := setAll [v] 0 (o + i) cur (by simp; omega)
      simp only [List.zipIdx_cons, List.zipIdx_nil, List.foldl_cons, List.foldl_nil, Nat.add_zero, List.length_singleton] at this
      rw [this]
      have e1 : o + (i + 1) = o + i + 1 := by omega
      have l1 : (cur.toList.take (o + i) ++ [v]).length = o + i + 1 := by simp; omega
      rw [e1, List.take_append_of_le_length (by omega), List.take_of_length_le (by omega)]
      have e2 : o + i + 1 + vs.length = (cur.toList.take (o + i) ++ [v]).length + vs.length := by omega
      rw [e2, List.drop_append]
      have e3 : (cur.toList.take (o + i) ++ [v]).length + vs.length - (cur.toList.take (o + i) ++ [v]).length = vs.length := by omega
      rw [e3, List.drop_eq_nil_of_le (by omega), List.nil_append, List.drop_drop]
      simp only [List.append_assoc, List.length_cons, List.cons_append]
      rw [List.nil_append, show o + i + 1 + vs.length = o + i + (vs.length + 1) from by omega]

theorem upd_ext {i b : Nat} {o' : AObj} {cur cur' : Array Value} {e : TypeId} {fz : Nat × Nat} (hb : c.blk i = some b) (hcur : w.heap[b]? = some (.cells cur e fz)) (hw : Wrote w w' b cur' e fz) (hsz : cur'.size = cur.size)
    (hfrom : (h.at i).from_ (c.off i) = some 0) (hfrom' : o'.from_ (c.off i) = some 0) (hsim : (h.at i).sim o') : Ext w h c w' (h.set i o') c := by
  have hi : i < h.length := Heap.at_live rfl (AObj.sim_dead hsim).1
  have hown : ∀ x, Owns h c b x := fun x => ⟨i, 0, hb, hfrom, Nat.zero_le _⟩
  constructor
  · exact hw.os
  · exact hw.tape
  · exact hw.output
  · rw [hw.size]; exact Nat.le_refl _
  · intro j hj
    by_cases hij : i = j
    · subst hij
      refine ⟨by simpa using hj.1, ?_⟩
      rw [at_set_eq _ hi]
      intro he; subst he; simp [AObj.from_] at hfrom'
    · exact ⟨by simpa using hj.1, by rw [at_set_ne _ hij]; exact hj.2⟩
  · intro j hj hd
    refine ⟨?_, rfl, rfl⟩
    by_cases hij : i = j
    · subst hij; rw [at_set_eq _ hi]; exact hsim
    · rw [at_set_ne _ hij] at hd ⊢
      have h2 := hj.2
      revert hd h2
      cases h.at j <;> simp [AObj.sim]
  · intro b' x hx ho
    have hne : b' ≠ b := by rintro rfl; exact ho (hown x)
    exact blocks_cell (hw.other b' hne)
  · intro b' hx ho
    have hne : b' ≠ b := by rintro rfl; exact ho 0 (hown 0)
    exact hw.other b' hne
  · rintro b' x hx ⟨j, f, g1, g2, g3⟩
    by_cases hij : i = j
    · subst hij
      rw [hb] at g1; cases g1
      exact hown x
    · rw [at_set_ne _ hij] at g2
      exact ⟨j, f, g1, g2, g3⟩
  · rfl
  · intro b' arr el fz' ha
    by_cases hne : b' = b
    · subst hne
      rw [hcur] at ha; cases ha
      exact ⟨cur', fz, hw.here, hsz⟩
    · exact ⟨arr, fz', by rw [hw.other b' hne]; exact ha, rfl⟩

theorem from_live {o : AObj} {f g : Nat} (hf : o.from_ f = some g) : o.live := by revert hf; cases o <;> simp [AObj.from_, AObj.live]

theorem upd_wf (wf : WF w h c) {i b : Nat} {o' : AObj} {cur cur' : Array Value} {e : TypeId} {fz : Nat × Nat} (hb : c.blk i = some b) (hcur : w.heap[b]? = some (.cells cur e fz)) (hw : Wrote w w' b cur' e fz) (hsz : cur'.size = cur.size)
    (hfrom : (h.at i).from_ (c.off i) = some 0) (hfrom' : o'.from_ (c.off i) = some 0) (hsim : (h.at i).sim o') (hob : ObjOK w' (h.set i o') c i o') : WF w' (h.set i o') c := by
  have hi : i < h.length := Heap.at_live rfl (AObj.sim_dead hsim).1
  have x := upd_ext hb hcur hw hsz hfrom hfrom' hsim
  have hli := from_live hfrom
  have hlive : ∀ j, (Heap.at (h.set i o') j).live → (h.at j).live := fun j hj => by
    by_cases hij : i = j
    · subst hij; exact hli
    · rw [at_set_ne _ hij] at hj; exact hj
  constructor
  · intro b' y ho he
    exact wf.disj b' y (x.owns b' y (wf.extlt b' y he) ho) he
  · intro b' y he
    rw [hw.size]; exact wf.extlt b' y he
  · intro j hj
    by_cases hij : i = j
    · subst hij; rw [at_set_eq _ hi]; exact hob
    · rw [at_set_ne _ hij]
      by_cases hl : (h.at j).live
      · refine (wf.obj j (by simpa using hj)).keep x (fun b' hb' => hw.other b' ?_) rfl rfl
        rintro rfl
        exact hij (wf.inj i j b' hli hl hb hb')
      · revert hl; cases h.at j <;> simp [AObj.live, ObjOK]
  · intro j k b' hj hk h1 h2
    exact wf.inj j k b' (hlive j hj) (hlive k hk) h1 h2
  · exact wf.lay_ext x

theorem splice_len {cs vs : List V} {o : Nat} (h : o + vs.length ≤ cs.length) : (splice cs o vs).length = cs.length := by simp [splice]; omega
theorem splice_rep {cs vs : List V} {ds us : List Value} (r : RepL w h c cs ds) (s : RepL w h c vs us) (o : Nat) : RepL w h c (splice cs o vs) (ds.take o ++ us ++ ds.drop (o + us.length)) := by
  unfold splice
  rw [s.1]
  exact ((r.take o).append s).append (r.drop _)

theorem store_cells (wf : WF w h c) {t : Nat} (T : TOK P tt) {i o : Nat} {cs vs : List V} {a' y' : Value} (ra : Rep w h c (.ptr i o) a') (hcs : h.at i = .cells cs) (rv : RepL w h c vs y'.cells.toList) (h1 : Ones y'.cells.toList)
    (hok : tt.ok t = true) (hsz : vs.length = (tt.at t).size) (hlt : o + vs.length ≤ cs.length) :
    ∃ w', (Instr.storeAt t a' y').run P w = .ok () w' ∧ WF w' (h.set i (.cells (splice cs o vs))) c ∧ Ext w h c w' (h.set i (.cells (splice cs o vs))) c := by
  have hi := Heap.at_live hcs (by simp)
  have ho := wf.obj i hi
  rw [hcs] at ho
  obtain ⟨b, arr, e, g1, g2, g3⟩ := ho
  cases ra with
  | ptr hu hv =>
    obtain ⟨b', rfl, hb'⟩ := hv
    have := hb' (by rw [hcs]; simp)
    rw [g1] at this; cases this
    have hl := g3.1
    simp only [Array.length_toList] at hl
    have hlv := rv.1
    obtain ⟨w', cur', k1, k2, k3⟩ := run_storeCells_gen (P := P) b o e (0, 0) y'.cells.toList 0 arr w g2 (by omega) (fun x _ _ => frozen_none g2 x) h1
    have hsz' : cur'.size = arr.size := by
      rw [← Array.length_toList, k3]; simp only [Array.length_toList, List.length_append, List.length_take, List.length_drop] at *; omega
    have hfrom : (h.at i).from_ (c.off i) = some 0 := by rw [hcs]; rfl
    have hsim : (h.at i).sim (.cells (splice cs o vs)) := by rw [hcs]; exact (splice_len hlt).symm
    have x := upd_ext g1 g2 k2 hsz' hfrom rfl hsim
    refine ⟨w', ?_, upd_wf wf g1 g2 k2 hsz' hfrom rfl hsim ⟨b, cur', e, g1, k2.here, ?_⟩, x⟩
    · simp only [Instr.storeAt, Instr.sureAddr, Sem.run_bind, Sem.run_pure, Result.andThen_ok, storeVar, T.sizeOf hok]
      rw [if_neg (by simp only [Array.length_toList] at hlv; omega)]
      simp only [k1]
    · rw [k3]
      exact splice_rep (g3.mono x) (rv.mono x) _

theorem store_bld (wf : WF w h c) {t : Nat} (T : TOK P tt) {i : Nat} {u v : V} {a' y' : Value} (ra : Rep w h c (.ptr i 1) a') (hcs : h.at i = .bld u) (rv : RepL w h c [v] y'.cells.toList) (h1 : Ones y'.cells.toList)
    (hok : tt.ok t = true) (hsz : 1 = (tt.at t).size) :
    ∃ w', (Instr.storeAt t a' y').run P w = .ok () w' ∧ WF w' (h.set i (.bld v)) c ∧ Ext w h c w' (h.set i (.bld v)) c := by
  have hi := Heap.at_live hcs (by simp)
  have ho := wf.obj i hi
  rw [hcs] at ho
  obtain ⟨b, p, d, g1, g2, g3, g4⟩ := ho
  cases ra with
  | ptr hu hv =>
    obtain ⟨b', rfl, hb'⟩ := hv
    have := hb' (by rw [hcs]; simp)
    rw [g1] at this; cases this
    have hlv := rv.1
    simp only [List.length_cons, List.length_nil] at hlv
    obtain ⟨w', cur', k1, k2, k3⟩ := run_storeCells_gen (P := P) b 1 lay0.bld (0, 0) y'.cells.toList 0 #[p, d] w g2 (by simp at hlv ⊢; omega) (fun x _ _ => frozen_none g2 x) h1
    have hsz' : cur'.size = (#[p, d] : Array Value).size := by
      rw [← Array.length_toList, k3]; simp at hlv ⊢; omega
    have hfrom : (h.at i).from_ (c.off i) = some 0 := by rw [hcs]; rfl
    have hsim : (h.at i).sim (.bld v) := by rw [hcs]; trivial
    have x := upd_ext g1 g2 k2 hsz' hfrom rfl hsim
    refine ⟨w', ?_, upd_wf wf g1 g2 k2 hsz' hfrom rfl hsim ?_, x⟩
    · simp only [Instr.storeAt, Instr.sureAddr, Sem.run_bind, Sem.run_pure, Result.andThen_ok, storeVar, T.sizeOf hok]
      rw [if_neg (by simp at hlv; omega)]
      simp only [k1]
    · match hy : y'.cells.toList, hlv with
      | [q], _ =>
        rw [hy] at k3 rv
        have hc' : cur' = #[p, q] := by
          apply Array.ext'
          rw [k3]; rfl
        exact ⟨b, p, q, g1, by rw [← hc']; exact k2.here, g3, rv.head.mono x⟩

theorem sim_row_set {T' : Ty} (l : List T'.den) (j : Nat) (y : T'.den) : (AObj.row T' l).sim (.row T' (l.set j y)) := ⟨rfl, by simp⟩

theorem store_row (wf : WF w h c) {t : Nat} (T : TOK P tt) {i n j o : Nat} {T' : Ty} {l : List T'.den} {vs : List V} {a' y' : Value} (ra : Rep w h c (.rptr i n j o) a') (hrow : h.at i = .row T' l) (rv : RepL w h c vs y'.cells.toList) (h1 : Ones y'.cells.toList)
    (hok : tt.ok t = true) (hn : n = T'.sz) (hsz : vs.length = (tt.at t).size) (hj : j < l.length) (hlt : o + vs.length ≤ (T'.cells (l.getD j T'.dflt)).length) {y : T'.den} (hy : T'.dec (splice (T'.cells (l.getD j T'.dflt)) o vs) = some y) :
    ∃ w', (Instr.storeAt t a' y').run P w = .ok () w' ∧ WF w' (h.set i (.row T' (l.set j y))) c ∧ Ext w h c w' (h.set i (.row T' (l.set j y))) c := by
  have hi := Heap.at_live hrow (by simp)
  have ho := wf.obj i hi
  rw [hrow] at ho
  rw [getD_eq hj] at hlt hy
  have hclen := T'.cells_len l[j]
  rcases ho with ⟨_, rfl⟩ | ⟨b, arr, e, fz, g1, g2, g3, g4, g5⟩
  · simp at hj
  · cases ra with
    | rptr hu hv =>
      obtain ⟨a, rfl, hv⟩ := hv
      obtain ⟨b', hb', rfl⟩ := hv T' l hrow hn hj
      rw [g1] at hb'; cases hb'
      have hlv := rv.1
      have hm := Nat.mul_le_mul_right T'.sz hj
      rw [Nat.succ_mul] at hm
      obtain ⟨w', cur', k1, k2, k3⟩ := run_storeCells_gen (P := P) b (c.off i + j * T'.sz + o) e fz y'.cells.toList 0 arr w g2 (by omega) (fun x _ hx => g4 x (.inl (by omega))) h1
      have hsz' : cur'.size = arr.size := by
        rw [← Array.length_toList, k3]; simp only [Array.length_toList, List.length_append, List.length_take, List.length_drop] at *; omega
      have hfrom : (h.at i).from_ (c.off i) = some 0 := by rw [hrow]; rfl
      have hsim : (h.at i).sim (.row T' (l.set j y)) := by rw [hrow]; exact sim_row_set l j y
      have x := upd_ext g1 g2 k2 hsz' hfrom rfl hsim
      obtain ⟨fl, fh⟩ := fz
      refine ⟨w', ?_, upd_wf wf g1 g2 k2 hsz' hfrom rfl hsim (.inr ⟨b, cur', e, (fl, fh), g1, k2.here, by rw [hsz']; simpa using g3, fun x hx => ?_, fun n' q z v hz hv' => ?_⟩), x⟩
      · simp only [Instr.storeAt, Instr.sureAddr, Sem.run_bind, Sem.run_pure, Result.andThen_ok, storeVar, T.sizeOf hok]
        rw [if_neg (by simp only [Array.length_toList] at hlv; omega)]
        simp only [k1]
      · have := g4 x (hx.imp (fun h => by omega) fun h => h)
        rw [frozen_of g2] at this
        rw [frozen_of k2.here]; exact this
      · have hq : q < T'.sz := by rw [← T'.cells_len z]; exact (List.getElem?_eq_some_iff.1 hv').1
        rw [List.getElem?_set] at hz
        have hget : ∀ p : Nat, cur'[p]? = cur'.toList[p]? := fun p => Array.getElem?_toList.symm
        rw [hget, k3]
        by_cases hjn : j = n'
        · subst hjn
          rw [if_pos rfl, if_pos hj] at hz
          cases hz
          -- the element that is written
          have base : RepL w h c (T'.cells l[j]) ((arr.toList.drop (c.off i + j * T'.sz)).take T'.sz) := by
            refine ⟨by rw [hclen]; simp; omega, fun x v d hv hd => ?_⟩
            obtain ⟨d', p1, p2⟩ := g5 j x l[j] v (List.getElem?_eq_getElem hj) hv
            rw [List.getElem?_take] at hd
            split at hd
            · rw [List.getElem?_drop] at hd
              have e1 : arr[c.off i + j * T'.sz + x]? = some d := by simpa using hd
              rw [p1] at e1; cases e1; exact p2
            · cases hd
          have sp := (dec_rep hy (splice_rep base rv o)).mono x
          have hlen2 := sp.1
          have hq2 : q < (((arr.toList.drop (c.off i + j * T'.sz)).take T'.sz).take o ++ y'.cells.toList ++ ((arr.toList.drop (c.off i + j * T'.sz)).take T'.sz).drop (o + y'.cells.toList.length)).length := by
            rw [← hlen2, T'.cells_len]; exact hq
          refine ⟨_, ?_, sp.2 q v _ hv' (List.getElem?_eq_getElem hq2)⟩
          rw [← List.getElem?_eq_getElem hq2]
          simp only [List.getElem?_append, List.length_append, List.length_take, List.length_drop, List.getElem?_take, List.getElem?_drop, Array.length_toList, Nat.add_zero] at *
          by_cases c1 : q < o
          · have e1 : c.off i + j * T'.sz + q < c.off i + j * T'.sz + o := by omega
            have e2 : c.off i + j * T'.sz + q < min (c.off i + j * T'.sz + o) arr.size := by omega
            have e3 : c.off i + j * T'.sz + q < min (c.off i + j * T'.sz + o) arr.size + y'.cells.size := by omega
            have e4 : q < min o (min T'.sz (arr.size - (c.off i + j * T'.sz))) := by omega
            have e5 : q < min o (min T'.sz (arr.size - (c.off i + j * T'.sz))) + y'.cells.size := by omega
            simp only [e1, e2, e3, e4, e5, c1, hq, if_true]
          · have m1 : min (c.off i + j * T'.sz + o) arr.size = c.off i + j * T'.sz + o := by omega
            have m2 : min o (min T'.sz (arr.size - (c.off i + j * T'.sz))) = o := by omega
            rw [m1, m2]
            by_cases c2 : q < o + y'.cells.size
            · have e1 : c.off i + j * T'.sz + q < c.off i + j * T'.sz + o + y'.cells.size := by omega
              have e2 : ¬ c.off i + j * T'.sz + q < c.off i + j * T'.sz + o := by omega
              have e3 : c.off i + j * T'.sz + q - (c.off i + j * T'.sz + o) = q - o := by omega
              simp only [e1, e2, e3, c1, c2, if_true, if_false]
            · have e1 : ¬ c.off i + j * T'.sz + q < c.off i + j * T'.sz + o + y'.cells.size := by omega
              have e3 : c.off i + j * T'.sz + o + y'.cells.size + (c.off i + j * T'.sz + q - (c.off i + j * T'.sz + o + y'.cells.size)) = c.off i + j * T'.sz + (o + y'.cells.size + (q - (o + y'.cells.size))) := by omega
              have e4 : o + y'.cells.size + (q - (o + y'.cells.size)) < T'.sz := by omega
              simp only [e1, e3, e4, c2, if_true, if_false]
        · rw [if_neg hjn] at hz
          obtain ⟨d, p1, p2⟩ := g5 n' q z v hz hv'
          refine ⟨d, ?_, p2.mono x⟩
          have hn' : n' < l.length := (List.getElem?_eq_some_iff.1 hz).1
          have p1' : arr.toList[c.off i + n' * T'.sz + q]? = some d := by simpa using p1
          simp only [Array.length_toList] at hlv
          simp only [List.getElem?_append, List.length_append, List.length_take, List.getElem?_take, List.getElem?_drop, Array.length_toList, Nat.add_zero]
          rcases Nat.lt_or_ge n' j with hlt' | hge
          · have hm2 := Nat.mul_le_mul_right T'.sz hlt'
            rw [Nat.succ_mul] at hm2
            have e1 : c.off i + n' * T'.sz + q < c.off i + j * T'.sz + o := by omega
            have e2 : c.off i + n' * T'.sz + q < min (c.off i + j * T'.sz + o) arr.size := by omega
            have e3 : c.off i + n' * T'.sz + q < min (c.off i + j * T'.sz + o) arr.size + y'.cells.size := by omega
            simp only [e1, e2, e3, if_true]; exact p1'
          · have hm2 := Nat.mul_le_mul_right T'.sz (show j + 1 ≤ n' by omega)
            rw [Nat.succ_mul] at hm2
            have m1 : min (c.off i + j * T'.sz + o) arr.size = c.off i + j * T'.sz + o := by omega
            have e1 : ¬ c.off i + n' * T'.sz + q < c.off i + j * T'.sz + o + y'.cells.size := by omega
            have e3 : c.off i + j * T'.sz + o + y'.cells.size + (c.off i + n' * T'.sz + q - (c.off i + j * T'.sz + o + y'.cells.size)) = c.off i + n' * T'.sz + q := by omega
            rw [m1]
            simp only [e1, e3, if_false]; exact p1'
end

section
variable {P : Program} {tt : TTab} {w w' : World} {h : Heap} {c : Cfg} {R : Type}

def cellsL (T : Ty) : List T.den → List V
  | [] => []
  | x :: l => T.cells x ++ cellsL T l

theorem cellsL_len (T : Ty) : ∀ l : List T.den, (cellsL T l).length = l.length * T.sz
  | [] => by simp [cellsL]
  | x :: l => by simp only [cellsL, List.length_append, T.cells_len, cellsL_len T l, List.length_cons, Nat.succ_mul]; omega

theorem cellsL_append (T : Ty) : ∀ l m : List T.den, cellsL T (l ++ m) = cellsL T l ++ cellsL T m
  | [], m => rfl
  | x :: l, m => by simp only [List.cons_append, cellsL, cellsL_append T l m, List.append_assoc]

theorem cellsL_get (T : Ty) : ∀ (l : List T.den) (i j : Nat) (x : T.den), l[i]? = some x → j < T.sz → (cellsL T l)[i * T.sz + j]? = (T.cells x)[j]?
  | [], i, j, x, hx, _ => by simp at hx
  | y :: l, 0, j, x, hx, hj => by
    simp at hx; subst hx
    simp only [cellsL, Nat.zero_mul, Nat.zero_add]
    rw [List.getElem?_append_left (by rw [T.cells_len]; exact hj)]
  | y :: l, i + 1, j, x, hx, hj => by
    simp at hx
    simp only [cellsL]
    rw [List.getElem?_append_right (by rw [T.cells_len, Nat.succ_mul]; omega), T.cells_len]
    rw [show (i + 1) * T.sz + j - T.sz = i * T.sz + j from by rw [Nat.succ_mul]; omega]
    exact cellsL_get T l i j x hx hj

theorem cells_one (T : Ty) (x : T.den) : (T.cells x).all V.one = true := by cases T <;> rfl
theorem cellsL_one (T : Ty) : ∀ l : List T.den, (cellsL T l).all V.one = true
  | [] => rfl
  | x :: l => by simp only [cellsL, List.all_append, cells_one, cellsL_one T l, Bool.and_true]

theorem decAll_rep {T : Ty} {n : Nat} : ∀ {cs : List V} {ds : List Value} {l : List T.den}, cs.length = n * T.sz → RepL w h c cs ds → decAll T (chunks T.sz n cs) = some l → RepL w h c (cellsL T l) ds := by
  induction n with
  | zero =>
    intro cs ds l hl r hd
    simp [chunks, decAll] at hd
    subst hd
    have h0 : cs = [] := List.eq_nil_of_length_eq_zero (by simpa using hl)
    subst h0
    exact r
  | succ n ih =>
    intro cs ds l hl r hd
    simp only [chunks, decAll] at hd
    split at hd
    · rename_i x xs h1 h2
      cases hd
      rw [Nat.succ_mul] at hl
      have r1 := dec_rep h1 (r.take T.sz)
      have r2 := ih (by simp; omega) (r.drop T.sz) h2
      have := r1.append r2
      rw [List.take_append_drop] at this
      exact this
    · cases hd

theorem sl_cells {T : Ty} {l : List T.den} {t : Tok} {A : Option Addr} {n cap : Nat} (r : Rep w h c (.sl T l t) (.slice A n cap)) :
    ∃ ds, RepL w h c (cellsL T l) ds ∧ (l ≠ [] → ∃ b o, A = some ⟨b, o, none⟩ ∧ CellsAt w b o ds ∧ ∀ x, o ≤ x → x < o + l.length * T.sz → Free h c b x) := by
  cases r with
  | sl f hcap hmx hc hr hnil hown =>
    refine ⟨(List.range (l.length * T.sz)).map fun k => f (k / T.sz) (k % T.sz), ⟨by simp [cellsL_len], fun k v d hv hd => ?_⟩, fun hne => ?_⟩
    · have hk : k < l.length * T.sz := by rw [← cellsL_len]; exact (List.getElem?_eq_some_iff.1 hv).1
      have hpos := T.sz_pos
      have hi : k / T.sz < l.length := (Nat.div_lt_iff_lt_mul hpos).2 hk
      have hj := Nat.mod_lt k hpos
      have e : k / T.sz * T.sz + k % T.sz = k := by rw [Nat.mul_comm]; exact Nat.div_add_mod _ _
      have := cellsL_get T l (k / T.sz) (k % T.sz) _ (List.getElem?_eq_getElem hi) hj
      rw [e] at this
      rw [this] at hv
      simp only [List.getElem?_map, List.getElem?_range hk, Option.map_some, Option.some.injEq] at hd
      subst hd
      exact hr _ _ _ v (List.getElem?_eq_getElem hi) hv
    · have hpos : 0 < l.length := List.length_pos_iff.2 hne
      obtain ⟨b, o, rfl, _⟩ := hc 0 0 hpos T.sz_pos
      have all : ∀ k, k < l.length * T.sz → w.cell? ⟨b, o + k, none⟩ = some (f (k / T.sz) (k % T.sz)) ∧ Free h c b (o + k) := by
        intro k hk
        have hi : k / T.sz < l.length := (Nat.div_lt_iff_lt_mul T.sz_pos).2 hk
        obtain ⟨b', o', e', g1, g2⟩ := hc _ _ hi (Nat.mod_lt k T.sz_pos)
        cases e'
        have e : k / T.sz * T.sz + k % T.sz = k := by rw [Nat.mul_comm]; exact Nat.div_add_mod _ _
        rw [Nat.add_assoc, e] at g1 g2
        exact ⟨g1, g2⟩
      refine ⟨b, o, rfl, fun k d hd => ?_, fun x h1 h2 => ?_⟩
      · simp only [List.getElem?_map] at hd
        by_cases hk : k < l.length * T.sz
        · rw [List.getElem?_range hk] at hd
          simp at hd; subst hd
          exact (all k hk).1
        · rw [List.getElem?_eq_none (by simp; omega)] at hd; cases hd
      · have := (all (x - o) (by omega)).2
        rw [show o + (x - o) = x from by omega] at this
        exact this

theorem sl_of_cells {T : Ty} {l : List T.den} {t : Tok} {A : Option Addr} {cap : Nat} {ds : List Value} (r : RepL w h c (cellsL T l) ds) (hcap : l.length ≤ cap) (hmx : cap ≤ mx)
    (hA : l ≠ [] → ∃ b o, A = some ⟨b, o, none⟩ ∧ CellsAt w b o ds ∧ ∀ x, o ≤ x → x < o + l.length * T.sz → Free h c b x) (hnil : t = .nil → A = none ∧ cap = 0)
    (hown : ∀ i, t = .own i → Used h i ∧ (h.at i = .tok →
        (c.blk i = none ∧ A = none ∧ cap = 0) ∨ ∃ b o arr e fz, c.blk i = some b ∧ A = some ⟨b, o, none⟩ ∧ c.off i = o + l.length * T.sz ∧
          w.heap[b]? = some (.cells arr e fz) ∧ o + cap * T.sz ≤ arr.size ∧ TokE T o e)) : Rep w h c (.sl T l t) (.slice A l.length cap) := by
  have hlen := r.1
  rw [cellsL_len] at hlen
  refine .sl (fun i j => ds.getD (i * T.sz + j) undef) hcap hmx (fun i j hi hj => ?_) (fun i j x v hx hv => ?_) hnil hown
  · have hk : i * T.sz + j < l.length * T.sz := by
      have := Nat.mul_le_mul_right T.sz hi
      rw [Nat.succ_mul] at this; omega
    obtain ⟨b, o, e, h1, h2⟩ := hA (by intro e; subst e; simp at hi)
    refine ⟨b, o, e, ?_, h2 _ (by omega) (by omega)⟩
    rw [Nat.add_assoc]
    refine h1 _ _ ?_
    rw [List.getElem?_eq_getElem (by omega)]
    simp [List.getD, List.getElem?_eq_getElem (show i * T.sz + j < ds.length by omega)]
  · have hj : j < T.sz := by rw [← T.cells_len x]; exact (List.getElem?_eq_some_iff.1 hv).1
    have hi : i < l.length := (List.getElem?_eq_some_iff.1 hx).1
    have hk : i * T.sz + j < ds.length := by
      have := Nat.mul_le_mul_right T.sz hi
      rw [Nat.succ_mul] at this; omega
    have := cellsL_get T l i j x hx hj
    refine r.2 (i * T.sz + j) v _ (this.trans hv) ?_
    rw [List.getElem?_eq_getElem hk]
    simp [List.getD, List.getElem?_eq_getElem hk]

theorem run_firstCells {b o n sz : Nat} {cap : Nat} {ds : List Value} (hl : ds.length = n * sz) (hc : CellsAt w b o ds) : (Builtin.firstCells sz n (.slice (some ⟨b, o, none⟩) n cap)).run P w = .ok ds.toArray w := by
  have := run_loadCells_list (P := P) w ⟨b, o, none⟩ ds (fun j v hv => by rw [add_off]; exact hc j v hv)
  rw [hl] at this
  simpa [Builtin.firstCells] using this

theorem run_firstCells0 {A : Option Addr} {n sz cap : Nat} (hn : n * sz = 0) : (Builtin.firstCells sz n (.slice A n cap)).run P w = .ok #[] w := by
  cases A with
  | none => simp [Builtin.firstCells]
  | some a =>
    simp only [Builtin.firstCells, hn]
    exact run_loadCells_list (P := P) w a [] (fun j v hv => by simp at hv)

theorem run_append_gen (T : TOK P tt) {t xt e : Nat} (ht : (tt.at t).d = .slice e) (hok : tt.ok e = true) (hxt : (∃ e', P.underlying xt = some (.slice e')) ∨ P.underlying xt = some .string)
    {A : Option Addr} {n cap m : Nat} {x : Value} {olds news : List Value} (ty : Nat)
    (hlx : (Builtin.lenOf x).run P w = .ok m w) (hnews : ∀ W : World, W.heap = w.heap → (Builtin.firstCells (tt.at e).size m x).run P W = .ok news.toArray W) (hnl : news.length = m * (tt.at e).size) (h1 : Ones news)
    (holds : olds.length = n * (tt.at e).size) (hold : n ≠ 0 → ∃ b o, A = some ⟨b, o, none⟩ ∧ CellsAt w b o olds) (hncap : n ≤ cap) (hcapmx : cap ≤ mx)
    (hA : (A = none ∧ cap = 0) ∨ ∃ b o arr el fz, A = some ⟨b, o, none⟩ ∧ w.heap[b]? = some (.cells arr el fz) ∧ o + cap * (tt.at e).size ≤ arr.size ∧ ∀ y, o + n * (tt.at e).size ≤ y → y < arr.size → w.frozen? ⟨b, y, none⟩ = false)
    (hroom : (n + m) * (tt.at e).bytes ≤ 140737488355328) (hmx : n + m ≤ mx) :
    (n + m ≤ cap ∧ A = none ∧ m = 0 ∧ (Builtin.append_ #[t, xt] ty #[.slice A n cap, x]).run P w = .ok (.slice A (n + m) cap) w) ∨
    (n + m ≤ cap ∧ ∃ b o arr el fz w' cur', A = some ⟨b, o, none⟩ ∧ w.heap[b]? = some (.cells arr el fz) ∧ o + cap * (tt.at e).size ≤ arr.size ∧
      (Builtin.append_ #[t, xt] ty #[.slice A n cap, x]).run P w = .ok (.slice A (n + m) cap) w' ∧ Wrote w w' b cur' el fz ∧
      cur'.toList = arr.toList.take (o + n * (tt.at e).size) ++ news ++ arr.toList.drop (o + n * (tt.at e).size + news.length)) ∨
    (∃ newCap ds, n + m ≤ newCap ∧ newCap ≤ mx ∧ ds.size = newCap * (tt.at e).size ∧ ds.toList.take ((n + m) * (tt.at e).size) = olds ++ news ∧
      (Builtin.append_ #[t, xt] ty #[.slice A n cap, x]).run P w = .ok (.slice (some ⟨w.heap.size, 0, none⟩) (n + m) newCap) (w.drew.alloc (.cells ds e))) := by
  have hu := und_of T ht
  simp only [TD.Is] at hu
  have hs := T.sizeOf (w := w) hok
  obtain ⟨inf, z, hi, hsi, hby, hzv, hzs, hzr⟩ := T.info e hok
  have hx : ∃ d, P.underlying xt = some d ∧ ((∃ e', d = .slice e') ∨ d = .string) := by
    rcases hxt with ⟨e', hx⟩ | hx
    · exact ⟨_, hx, .inl ⟨e', rfl⟩⟩
    · exact ⟨_, hx, .inr rfl⟩
  by_cases hfit : n + m ≤ cap
  · rcases hA with ⟨rfl, rfl⟩ | ⟨b, o, arr, el, fz, rfl, hb, hsz, hfz⟩
    · have hm0 : m = 0 := by omega
      subst hm0
      refine .inl ⟨hfit, rfl, rfl, ?_⟩
      have hn0 : news = [] := List.eq_nil_of_length_eq_zero (by simpa using hnl)
      have hf := hnews w rfl
      subst hn0
      rcases hxt with ⟨e', hx⟩ | hx <;>
        simp [Builtin.append_, run_underlying hu, run_underlying hx, hs, hlx, hf, show n = 0 from by omega]
    · refine .inr (.inl ⟨hfit, b, o, arr, el, fz, ?_⟩)
      have hf := hnews w rfl
      obtain ⟨w', cur', k1, k2, k3⟩ := run_storeCells_gen (P := P) b (o + n * (tt.at e).size) el fz news 0 arr w hb (by
        have : (n + m) * (tt.at e).size ≤ cap * (tt.at e).size := Nat.mul_le_mul_right _ hfit
        rw [Nat.add_mul] at this; omega) (fun y h1 h2 => hfz y h1 (by
        have : (n + m) * (tt.at e).size ≤ cap * (tt.at e).size := Nat.mul_le_mul_right _ hfit
        rw [Nat.add_mul] at this; omega)) h1
      refine ⟨w', cur', rfl, hb, hsz, ?_, k2, by simpa using k3⟩
      rcases hxt with ⟨e', hx⟩ | hx <;>
        simp [Builtin.append_, run_underlying hu, run_underlying hx, hs, hlx, hf, hfit, add_off, k1]
  · refine .inr (.inr ?_)
    let newCap := (Question.appendCap (n + m) cap e).cut (w.tape w.drawn (.appendCap (n + m) cap e))
    have hge : n + m ≤ newCap := by simp only [newCap, Question.cut]; omega
    have hlt : newCap ≤ mx := by
      have hlt : w.tape w.drawn (Question.appendCap (n + m) cap e) % (2 ^ 63 - (n + m)) < 2 ^ 63 - (n + m) := Nat.mod_lt _ (by unfold mx at hmx; omega)
      simp only [newCap, Question.cut]
      unfold mx at hmx ⊢
      omega
    let ds : Array Value := olds.toArray ++ news.toArray ++ Builtin.zeroCells z.cells (newCap - (n + m))
    have hzl : (Builtin.zeroCells z.cells (newCap - (n + m))).size = (newCap - (n + m)) * (tt.at e).size := by
      simp [Builtin.zeroCells]; rw [hzs, hsi]
    have hds : ds.size = newCap * (tt.at e).size := by
      simp only [ds, Array.size_append, List.size_toArray, holds, hnl, hzl]
      rw [← Nat.add_mul, ← Nat.add_mul]
      congr 1; omega
    refine ⟨newCap, ds, hge, hlt, hds, ?_, ?_⟩
    · have : ds.toList = (olds ++ news) ++ (Builtin.zeroCells z.cells (newCap - (n + m))).toList := by simp [ds]
      rw [this, List.take_append_of_le_length (by simp [holds, hnl, Nat.add_mul]), List.take_of_length_le (by simp [holds, hnl, Nat.add_mul])]
    · have hfo : (Builtin.firstCells (tt.at e).size n (.slice A n cap)).run P w.drew = .ok olds.toArray w.drew := by
        by_cases hn0 : n = 0
        · subst hn0
          have : olds = [] := List.eq_nil_of_length_eq_zero (by simpa using holds)
          subst this
          exact run_firstCells0 (by simp)
        · obtain ⟨b, o, rfl, hc⟩ := hold hn0
          exact run_firstCells holds hc
      have hf := hnews w.drew rfl
      have h48' : ¬ (281474976710656 < Builtin.nextslicecap (n + m) cap * (tt.at e).bytes) := by
        have := growslice_fits (need := n + m) (old := cap) (by omega) hroom
        omega
      have h63' : ¬ (9223372036854775807 < ((n : Int) + (m : Int))) := by unfold mx at hmx; omega
      have hsd : (sizeOf e).run P w.drew = .ok (tt.at e).size w.drew := T.sizeOf hok
      rcases hxt with ⟨e', hx⟩ | hx <;>
        simp [Builtin.append_, run_underlying hu, run_underlying hx, hs, hlx, hfit, h63', typeInfo, hi, hby, h48', Question.forced, hfo, hf, zeroValue, hzv, newRow, ds, newCap]
end

section
variable {P : Program} {tt : TTab} {w w' : World} {h : Heap} {c : Cfg} {R : Type}

theorem owns_dead {i b x : Nat} (ho : Owns (h.set i .dead) c b x) : Owns h c b x := by
  obtain ⟨j, f, g1, g2, g3⟩ := ho
  rw [at_set] at g2
  split at g2
  · simp [AObj.from_] at g2
  · exact ⟨j, f, g1, g2, g3⟩

theorem kill_ext (i : Nat) : Ext w h c w (h.set i .dead) c where
  os := rfl
  tape := rfl
  output := rfl
  size := Nat.le_refl _
  used := fun j hj => ⟨by simpa using hj.1, by rw [at_set]; split; simp; exact hj.2⟩
  same := fun j hj hd => by
    rw [at_set] at hd ⊢
    split
    · rename_i hc; rw [if_pos hc] at hd; exact absurd rfl hd
    · rename_i hc
      rw [if_neg hc] at hd
      refine ⟨?_, rfl, rfl⟩
      have h2 := hj.2
      revert hd h2
      cases h.at j <;> simp [AObj.sim]
  cell := fun _ _ _ _ => rfl
  block := fun _ _ _ => rfl
  owns := fun b x _ ho => owns_dead ho
  ext := rfl
  arr := fun b arr e fz hb => ⟨arr, fz, hb, rfl⟩

theorem kill_wf (wf : WF w h c) (i : Nat) : WF w (h.set i .dead) c where
  lay := wf.lay_ext (kill_ext i)
  disj := fun b x ho => wf.disj b x (owns_dead ho)
  extlt := wf.extlt
  obj := fun j hj => by
    rw [at_set]
    split
    · trivial
    · exact (wf.obj j (by simpa using hj)).keep (kill_ext i) (fun _ _ => rfl) rfl rfl
  inj := fun j k b hj hk h1 h2 => by
    have key : ∀ j, (Heap.at (h.set i .dead) j).live → (h.at j).live := fun j hj => by
      rw [at_set] at hj
      split at hj
      · exact hj.elim
      · exact hj
    exact wf.inj j k b (key j hj) (key k hk) h1 h2

theorem below_drew_alloc (w : World) (o : Obj) : Below w.heap.size w (w.drew.alloc o) := ((Below.refl _ _).drew).alloc (Nat.le_refl _) o

theorem grown_tok (wf : WF w h c) {id : Nat} (hid : id < h.length) (hf : h.at id = .free) {T : Ty} {l : List T.den} {us : List Value} (r : RepL w h c (cellsL T l) us) {ds : Array Value} {e : TypeId} (hte : TokE T 0 e) {cap : Nat}
    (hds : ds.size = cap * T.sz) (htake : ds.toList.take (l.length * T.sz) = us) (hcap : l.length ≤ cap) (hmx : cap ≤ mx) :
    ∃ c', WF (w.drew.alloc (.cells ds e)) (h.set id .tok) c' ∧ Ext w h c (w.drew.alloc (.cells ds e)) (h.set id .tok) c' ∧ Rep (w.drew.alloc (.cells ds e)) (h.set id .tok) c' (.sl T l (.own id)) (.slice (some ⟨w.heap.size, 0, none⟩) l.length cap) := by
  have hb := below_drew_alloc w (.cells ds e)
  have hnb : ∀ b, some w.heap.size = some b → w.heap.size ≤ b := by intro b hb; cases hb; exact Nat.le_refl _
  have hnew : (w.drew.alloc (.cells ds e)).heap[w.heap.size]? = some (.cells ds e (0, 0)) := heap_alloc_new w.drew (.cells ds e)
  have x := new_ext (h := h) (c := c) hb hf .tok (no := l.length * T.sz) hnb
  have hm : l.length * T.sz ≤ cap * T.sz := Nat.mul_le_mul_right _ hcap
  have hob : ObjOK (w.drew.alloc (.cells ds e)) (h.set id .tok) (c.put id (some w.heap.size) (l.length * T.sz)) id .tok :=
    .inr ⟨w.heap.size, ds, e, (0, 0), put_blk_eq _ _ _, hnew, by rw [put_off_eq]; omega, .inl rfl⟩
  refine ⟨_, new_wf wf hb hid hf hnb hob, x, sl_of_cells (r.mono x) hcap hmx (fun _ => ⟨w.heap.size, 0, rfl, fun j d hd => ?_, fun y _ hy => ?_⟩) (by simp) (fun i hi => ?_)⟩
  · rw [Nat.zero_add, cell_of_row _ _ _ _ _ _ hnew]
    rw [← htake, List.getElem?_take] at hd
    split at hd
    · simpa using hd
    · cases hd
  · refine not_owned_new wf _ _ _ (fun f hf' => ?_) hid
    simp [AObj.from_] at hf'
    omega
  · cases hi
    exact ⟨used_set hid (by simp), fun _ => .inr ⟨w.heap.size, 0, ds, e, (0, 0), put_blk_eq _ _ _, rfl, by rw [put_off_eq, Nat.zero_add], hnew, by omega, hte⟩⟩

theorem grown_row (wf : WF w h c) {id : Nat} (hid : id < h.length) (hf : h.at id = .free) {T : Ty} {l : List T.den} {us : List Value} (r : RepL w h c (cellsL T l) us) {ds : Array Value} {e : TypeId} {cap : Nat}
    (hds : ds.size = cap * T.sz) (htake : ds.toList.take (l.length * T.sz) = us) (hcap : l.length ≤ cap) (hmx : cap ≤ mx) :
    ∃ c', WF (w.drew.alloc (.cells ds e)) (h.set id (.row T l)) c' ∧ Ext w h c (w.drew.alloc (.cells ds e)) (h.set id (.row T l)) c' ∧
      Rep (w.drew.alloc (.cells ds e)) (h.set id (.row T l)) c' (.row id l.length) (.slice (some ⟨w.heap.size, 0, none⟩) l.length cap) := by
  have hb := below_drew_alloc w (.cells ds e)
  have hnb : ∀ b, some w.heap.size = some b → w.heap.size ≤ b := by intro b hb; cases hb; exact Nat.le_refl _
  have hnew : (w.drew.alloc (.cells ds e)).heap[w.heap.size]? = some (.cells ds e (0, 0)) := heap_alloc_new w.drew (.cells ds e)
  have x := new_ext (h := h) (c := c) hb hf (.row T l) (no := 0) hnb
  have hm : l.length * T.sz ≤ cap * T.sz := Nat.mul_le_mul_right _ hcap
  have r' := r.mono x
  have hob : ObjOK (w.drew.alloc (.cells ds e)) (h.set id (.row T l)) (c.put id (some w.heap.size) 0) id (.row T l) := by
    refine .inr ⟨w.heap.size, ds, e, (0, 0), put_blk_eq _ _ _, hnew, by rw [put_off_eq]; omega, fun y _ => frozen_none hnew y, fun n j z v hz hv => ?_⟩
    have hj : j < T.sz := by rw [← T.cells_len z]; exact (List.getElem?_eq_some_iff.1 hv).1
    have hn : n < l.length := (List.getElem?_eq_some_iff.1 hz).1
    have hlt : n * T.sz + j < l.length * T.sz := by
      have := Nat.mul_le_mul_right T.sz hn
      rw [Nat.succ_mul] at this; omega
    have hl := r.1
    rw [cellsL_len] at hl
    have hg := List.getElem?_eq_getElem (show n * T.sz + j < us.length by omega)
    refine ⟨us[n * T.sz + j]'(by omega), ?_, r'.2 _ v _ ((cellsL_get T l n j z hz hj).trans hv) hg⟩
    rw [put_off_eq, Nat.zero_add, ← hg, ← htake, List.getElem?_take, if_pos hlt]
    simp
  refine ⟨_, new_wf wf hb hid hf hnb hob, x, .row (used_set hid (by simp)) (by omega) ⟨_, _, rfl, ⟨hcap, hmx, fun _ => ⟨_, rfl⟩⟩, fun T' l' he => ?_⟩⟩
  rw [at_set_eq _ hid] at he
  cases he
  exact ⟨rfl, hcap, hmx, .inr ⟨w.heap.size, ds, e, (0, 0), put_blk_eq _ _ _, by rw [put_off_eq], hnew, by rw [put_off_eq]; omega⟩⟩

theorem none_tok (wf : WF w h c) {id : Nat} (hid : id < h.length) (hf : h.at id = .free) {T : Ty} :
    ∃ c', WF w (h.set id .tok) c' ∧ Ext w h c w (h.set id .tok) c' ∧ Rep w (h.set id .tok) c' (.sl T [] (.own id)) (.slice none 0 0) := by
  have hnb : ∀ b, (none : Option Nat) = some b → w.heap.size ≤ b := by intro b hb; cases hb
  have x := new_ext (h := h) (c := c) (Below.refl w.heap.size w) hf .tok (no := 0) hnb
  refine ⟨_, new_wf wf (Below.refl _ _) hid hf hnb (.inl (put_blk_eq _ _ _)), x, ?_⟩
  exact sl_of_cells (l := []) (ds := []) RepL.nil (Nat.le_refl _) (by unfold mx; omega) (fun h => absurd rfl h) (by simp) (fun i hi => by
    cases hi; exact ⟨used_set hid (by simp), fun _ => .inl ⟨put_blk_eq _ _ _, rfl, rfl⟩⟩)

theorem none_row (wf : WF w h c) {id : Nat} (hid : id < h.length) (hf : h.at id = .free) {T : Ty} :
    ∃ c', WF w (h.set id (.row T [])) c' ∧ Ext w h c w (h.set id (.row T [])) c' ∧ Rep w (h.set id (.row T [])) c' (.row id 0) (.slice none 0 0) := by
  have hnb : ∀ b, (none : Option Nat) = some b → w.heap.size ≤ b := by intro b hb; cases hb
  have x := new_ext (h := h) (c := c) (Below.refl w.heap.size w) hf (.row T []) (no := 0) hnb
  refine ⟨_, new_wf wf (Below.refl _ _) hid hf hnb (.inl ⟨put_blk_eq _ _ _, rfl⟩), x, ?_⟩
  refine .row (used_set hid (by simp)) (by unfold mx; omega) ⟨none, 0, rfl, ⟨Nat.le_refl _, by unfold mx; omega, fun h => by omega⟩, fun T' l' he => ?_⟩
  rw [at_set_eq _ hid] at he
  cases he
  exact ⟨rfl, Nat.le_refl _, by unfold mx; omega, .inl ⟨put_blk_eq _ _ _, rfl, rfl⟩⟩

theorem bytesI_len (s : Str) : (bytesI s).length = s.length := @List.length_map UInt8 Int s _
theorem cellsL_bytes : ∀ s : Str, cellsL (.int .u8) (bytesI s) = s.map fun b => V.int .u8 b.toNat
  | [] => rfl
  | b :: s => by
    show V.int .u8 b.toNat :: cellsL (.int .u8) (bytesI s) = _
    rw [cellsL_bytes s]; rfl

theorem row_all (wf : WF w h c) {i : Nat} {T : Ty} {l : List T.den} (he : h.at i = .row T l) :
    ∃ ds, RepL w h c (cellsL T l) ds ∧ (l ≠ [] → ∃ b, c.blk i = some b ∧ CellsAt w b (c.off i) ds) := by
  have hi := Heap.at_live he (by simp)
  have ho := wf.obj i hi
  rw [he] at ho
  rcases ho with ⟨_, rfl⟩ | ⟨b, arr, e, fz, h1, h2, h3, h4, h5⟩
  · exact ⟨[], .nil, fun h => absurd rfl h⟩
  · refine ⟨(arr.toList.drop (c.off i)).take (l.length * T.sz), ⟨by rw [cellsL_len]; simp; omega, fun k v d hv hd => ?_⟩, fun _ => ⟨b, h1, fun k d hd => ?_⟩⟩
    · have hk : k < l.length * T.sz := by rw [← cellsL_len]; exact (List.getElem?_eq_some_iff.1 hv).1
      have hq : k / T.sz < l.length := (Nat.div_lt_iff_lt_mul T.sz_pos).2 hk
      have hj := Nat.mod_lt k T.sz_pos
      have e : k / T.sz * T.sz + k % T.sz = k := by rw [Nat.mul_comm]; exact Nat.div_add_mod _ _
      have hg := cellsL_get T l (k / T.sz) (k % T.sz) _ (List.getElem?_eq_getElem hq) hj
      rw [e] at hg
      rw [hg] at hv
      obtain ⟨d', p1, p2⟩ := h5 _ _ _ v (List.getElem?_eq_getElem hq) hv
      rw [Nat.add_assoc, e] at p1
      rw [List.getElem?_take, if_pos hk, List.getElem?_drop] at hd
      have e1 : arr[c.off i + k]? = some d := by simpa using hd
      rw [p1] at e1; cases e1; exact p2
    · rw [List.getElem?_take] at hd
      split at hd
      · rw [List.getElem?_drop] at hd
        rw [cell_of_row w b _ arr e fz h2]; simpa using hd
      · cases hd

theorem cellsL_take (T : Ty) : ∀ (l : List T.den) (n : Nat), cellsL T (l.take n) = (cellsL T l).take (n * T.sz)
  | [], n => by simp [cellsL]
  | x :: l, 0 => by simp [cellsL]
  | x :: l, n + 1 => by
    have hl : (T.cells x).length = T.sz := T.cells_len x
    rw [List.take_succ_cons]
    simp only [cellsL]
    rw [cellsL_take T l n, show (n + 1) * T.sz = (T.cells x).length + n * T.sz by rw [hl, Nat.add_mul]; omega, List.take_append, List.take_of_length_le (Nat.le_add_right _ _), Nat.add_sub_cancel_left]
theorem cellsL_drop (T : Ty) : ∀ (l : List T.den) (n : Nat), cellsL T (l.drop n) = (cellsL T l).drop (n * T.sz)
  | [], n => by simp [cellsL]
  | x :: l, 0 => by simp [cellsL]
  | x :: l, n + 1 => by
    have hl : (T.cells x).length = T.sz := T.cells_len x
    rw [List.drop_succ_cons]
    simp only [cellsL]
    rw [cellsL_drop T l n, show (n + 1) * T.sz = (T.cells x).length + n * T.sz by rw [hl, Nat.add_mul]; omega, List.drop_append]
    simp
theorem repL_take {cs : List V} {ds : List Value} (r : RepL w h c cs ds) (n : Nat) : RepL w h c (cs.take n) (ds.take n) :=
  ⟨by rw [List.length_take, List.length_take, r.1], fun j v d hv hd => by
    rw [List.getElem?_take] at hv hd
    split at hv
    · rename_i hj
      rw [if_pos hj] at hd
      exact r.2 j v d hv hd
    · cases hv⟩
theorem repL_drop {cs : List V} {ds : List Value} (r : RepL w h c cs ds) (n : Nat) : RepL w h c (cs.drop n) (ds.drop n) :=
  ⟨by rw [List.length_drop, List.length_drop, r.1], fun j v d hv hd => by
    rw [List.getElem?_drop] at hv hd
    exact r.2 _ v d hv hd⟩

theorem src_sound (wf : WF w h c) {T : Ty} {sz : Nat} (hsz : T.sz = sz) {v : V} {v' : Value} (rv : Rep w h c v v') {m : List T.den} (hok : viewOk h v = true) (hs : srcOf T h v = some m) :
    ∃ news, (Builtin.lenOf v').run P w = .ok m.length w ∧ (∀ W : World, W.heap = w.heap → (Builtin.firstCells sz m.length v').run P W = .ok news.toArray W) ∧ RepL w h c (cellsL T m) news ∧ m.length ≤ mx := by
  subst hsz
  have hcell : ∀ (W : World) (b x : Nat), W.heap = w.heap → W.cell? ⟨b, x, none⟩ = w.cell? ⟨b, x, none⟩ := fun W b x hW => by simp only [World.cell?, hW]
  have key : ∀ (A : Option Addr) (cap : Nat) (news : List Value), RepL w h c (cellsL T m) news → (m ≠ [] → ∃ b o, A = some ⟨b, o, none⟩ ∧ CellsAt w b o news) →
      ∀ W : World, W.heap = w.heap → (Builtin.firstCells T.sz m.length (.slice A m.length cap)).run P W = .ok news.toArray W := by
    intro A cap news hr hA W hW
    have hl := hr.1
    rw [cellsL_len] at hl
    by_cases hm : m = []
    · subst hm
      have : news = [] := List.eq_nil_of_length_eq_zero (by simpa using hl.symm)
      subst this
      exact run_firstCells0 (by simp)
    · obtain ⟨b, o, rfl, hc⟩ := hA hm
      exact run_firstCells hl.symm (fun j d hd => by rw [hcell W _ _ hW]; exact hc j d hd)
  unfold srcOf at hs
  split at hs
  · cases hs
    cases rv
    exact ⟨[], by simp [Builtin.lenOf], fun W hW => run_firstCells0 (by simp), .nil, by simp⟩
  · rename_i T' l t
    split at hs
    · rename_i e
      subst e
      obtain rfl : l = m := by simpa using hs
      obtain ⟨A, cap, rfl, h1, h2⟩ := sl_inv rv
      obtain ⟨ds, g1, g2⟩ := sl_cells rv
      exact ⟨ds, by simp [Builtin.lenOf], key A cap ds g1 (fun hne => by obtain ⟨b, o, q1, q2, _⟩ := g2 hne; exact ⟨b, o, q1, q2⟩), g1, by omega⟩
    · cases hs
  · rename_i i n
    split at hs
    · rename_i T' l hrow
      split at hs
      · rename_i e
        subst e
        obtain rfl : l = m := by simpa using hs
        cases rv with
        | row hu hn hv =>
          obtain ⟨A, cap, rfl, hA, hv⟩ := hv
          obtain ⟨g1, g2, g3, g4⟩ := hv _ _ hrow
          obtain ⟨ds, k1, k2⟩ := row_all wf hrow
          subst g1
          exact ⟨ds, by simp [Builtin.lenOf], key A cap ds k1 (fun hne => by
            obtain ⟨b, q1, q2⟩ := k2 hne
            rcases g4 with ⟨p1, _⟩ | ⟨b', arr, el, fz, p1, p2, _⟩
            · rw [q1] at p1; cases p1
            · rw [q1] at p1; cases p1
              exact ⟨b, _, p2, q2⟩), k1, hn⟩
      · cases hs
    · cases hs
  · rename_i i z q n
    split at hs
    · rename_i T' l hrow
      split at hs
      · rename_i e
        subst e
        · simp only [viewOk, hrow, Bool.and_eq_true, decide_eq_true_eq] at hok
          obtain ⟨hz, hq⟩ := hok
          obtain rfl : (l.drop q).take n = m := by simpa using hs
          cases rv with
          | rview hu hn hv =>
            obtain ⟨A, cap, rfl, hA, hv⟩ := hv
            obtain ⟨g1, g4⟩ := hv _ _ hrow hz (by omega)
            obtain ⟨ds, k1, k2⟩ := row_all wf hrow
            have hml : ((l.drop q).take n).length = n := by rw [List.length_take, List.length_drop]; omega
            have k3 : RepL w h c (cellsL T' ((l.drop q).take n)) ((ds.drop (q * T'.sz)).take (n * T'.sz)) := by
              rw [cellsL_take, cellsL_drop]
              exact repL_take (repL_drop k1 _) _
            refine ⟨(ds.drop (q * T'.sz)).take (n * T'.sz), by simp [Builtin.lenOf, hml], ?_, k3, by omega⟩
            have := key A cap _ k3 (fun hne => by
              have hpos := List.length_pos_iff.2 hne
              obtain ⟨b, q1, q2⟩ := k2 (by rintro rfl; simp at hne)
              obtain ⟨b', arr, el, fz, p1, p2, _⟩ := g4 (by omega)
              rw [q1] at p1; cases p1
              refine ⟨b, _, p2, fun j d hd => ?_⟩
              rw [List.getElem?_take] at hd
              split at hd
              · rw [List.getElem?_drop] at hd
                rw [Nat.add_assoc]
                exact q2 _ _ hd
              · cases hd)
            rw [hml] at this ⊢
            exact this
      · cases hs
    · cases hs
  · rename_i n cs
    split at hs
    · rename_i hcl
      cases rv with
      | @vsl _ sz' _ A hn hmx f hc hr =>
        have hr' : RepL w h c cs ((List.range cs.length).map f) := by
          refine ⟨by simp, fun j v d hv hd => ?_⟩
          have hlt : j < cs.length := (List.getElem?_eq_some_iff.1 hv).1
          simp only [List.getElem?_map, List.getElem?_range hlt, Option.map_some, Option.some.injEq] at hd
          subst hd
          exact hr j v hv
        have hrep := decAll_rep hcl hr' hs
        have hml : m.length = n := by rw [decAll_len hs, chunks_len]
        rw [← hml]
        exact ⟨_, by simp [Builtin.lenOf], key A m.length _ hrep (fun hne => by
          have hpos : 0 < cs.length := by
            have := List.length_pos_iff.2 hne
            rw [hcl, ← hml]
            exact Nat.mul_pos this T.sz_pos
          obtain ⟨b, o, rfl, _⟩ := hc 0 hpos
          refine ⟨b, o, rfl, fun j d hd => ?_⟩
          simp only [List.getElem?_map] at hd
          by_cases hlt : j < cs.length
          · rw [List.getElem?_range hlt] at hd
            simp at hd; subst hd
            obtain ⟨b', o', e', q1, _⟩ := hc j hlt
            cases e'
            exact q1
          · rw [List.getElem?_eq_none (by simp; omega)] at hd; cases hd), hrep, by omega⟩
    · cases hs
  · rename_i s
    split at hs
    · rename_i e
      subst e
      obtain ⟨t, rfl, rfl, hl⟩ := rv.str_inv
      obtain rfl : bytesI t.data.toList = m := by simpa using hs
      refine ⟨t.data.toList.map fun b => Value.int .u8 b.toNat, ?_, fun W hW => ?_, ?_, ?_⟩
      · rw [bytesI_len, size_data]; simp [Builtin.lenOf]
      · rw [bytesI_len, size_data]
        simp only [Builtin.firstCells, Sem.run_pure]
        congr 1
        apply Array.ext'
        simp
      · rw [cellsL_bytes]; exact RepL.map _ fun b _ => .int (has_byte _ (UInt8.toNat_lt b))
      · rw [bytesI_len, size_data]; exact hl
    · cases hs
  · cases hs

theorem fit_tok (wf : WF w h c) {i id : Nat} (hi : h.at i = .tok) (hid : id < h.length) (hf : h.at id = .free) {b o : Nat} (hb : c.blk i = some b) {T : Ty} {l m : List T.den} (hoff : c.off i = o + l.length * T.sz)
    {arr cur' : Array Value} {el : TypeId} (hte : TokE T o el) {fz : Nat × Nat} (harr : w.heap[b]? = some (.cells arr el fz)) (hw : Wrote w w' b cur' el fz) {cap : Nat} (hcap : (l ++ m).length ≤ cap) (hmx : cap ≤ mx) (hsz : o + cap * T.sz ≤ arr.size)
    {olds news : List Value} (ro : RepL w h c (cellsL T l) olds) (rn : RepL w h c (cellsL T m) news) (hold : l ≠ [] → CellsAt w b o olds) (hun : ∀ x, o ≤ x → x < o + l.length * T.sz → Free h c b x)
    (hcur : cur'.toList = arr.toList.take (o + l.length * T.sz) ++ news ++ arr.toList.drop (o + l.length * T.sz + news.length)) :
    ∃ c', WF w' ((h.set i .dead).set id .tok) c' ∧ Ext w h c w' ((h.set i .dead).set id .tok) c' ∧ Rep w' ((h.set i .dead).set id .tok) c' (.sl T (l ++ m) (.own id)) (.slice (some ⟨b, o, none⟩) (l ++ m).length cap) := by
  have hne : i ≠ id := by rintro rfl; rw [hi] at hf; cases hf
  have hil := Heap.at_live hi (by simp)
  have hlen1 := ro.1
  have hlen2 := rn.1
  rw [cellsL_len] at hlen1 hlen2
  have hmul : (l ++ m).length * T.sz ≤ cap * T.sz := Nat.mul_le_mul_right _ hcap
  have hlm : (l ++ m).length * T.sz = l.length * T.sz + m.length * T.sz := by rw [List.length_append, Nat.add_mul]
  have hcs : cur'.size = arr.size := by
    rw [← Array.length_toList, hcur]; simp only [List.length_append, List.length_take, List.length_drop, Array.length_toList]; omega
  have hid1 : id < (h.set i .dead).length := by simpa using hid
  have hat : ∀ j, Heap.at ((h.set i .dead).set id .tok) j = if id = j then .tok else if i = j then .dead else h.at j := by
    intro j
    rw [at_set, at_set]
    by_cases h1 : id = j
    · simp [h1]; intro h2; subst h1; omega
    · simp only [h1, false_and, if_false]
      by_cases h2 : i = j
      · subst h2; simp [hil]
      · simp [h2]
  have hc' : ∀ j, j ≠ id → (c.put id (some b) (o + (l ++ m).length * T.sz)).blk j = c.blk j ∧ (c.put id (some b) (o + (l ++ m).length * T.sz)).off j = c.off j := fun j hj => ⟨put_blk_ne _ _ hj, put_off_ne _ _ hj⟩
  have hoth : ∀ j, j ≠ i → (h.at j).live → c.blk j ≠ some b := fun j hj hl hbj => hj (wf.inj j i b hl (by rw [hi]; trivial) hbj hb)
  have hcellx : ∀ x, x < o + l.length * T.sz → w'.cell? ⟨b, x, none⟩ = w.cell? ⟨b, x, none⟩ := by
    intro x hx
    rw [cell_of_row w' b x cur' el fz hw.here, cell_of_row w b x arr el fz harr, ← Array.getElem?_toList, ← Array.getElem?_toList, hcur, List.append_assoc,
      List.getElem?_append_left (by simp only [List.length_take, Array.length_toList]; omega), List.getElem?_take, if_pos hx]
  have howns : ∀ b' x, Owns ((h.set i .dead).set id .tok) (c.put id (some b) (o + (l ++ m).length * T.sz)) b' x → Owns h c b' x := by
    rintro b' x ⟨j, f, g1, g2, g3⟩
    rw [hat] at g2
    by_cases h1 : id = j
    · subst h1
      rw [put_blk_eq] at g1
      cases g1
      rw [if_pos rfl, put_off_eq] at g2
      simp only [AObj.from_, Option.some.injEq] at g2
      exact ⟨i, c.off i, hb, by rw [hi]; rfl, by omega⟩
    · rw [if_neg h1] at g2
      split at g2
      · simp [AObj.from_] at g2
      · obtain ⟨e1, e2⟩ := hc' j (Ne.symm h1)
        rw [e1] at g1; rw [e2] at g2
        exact ⟨j, f, g1, g2, g3⟩
  have x : Ext w h c w' ((h.set i .dead).set id .tok) (c.put id (some b) (o + (l ++ m).length * T.sz)) := by
    constructor
    · exact hw.os
    · exact hw.tape
    · exact hw.output
    · rw [hw.size]; exact Nat.le_refl _
    · intro j hj
      refine ⟨by simpa using hj.1, ?_⟩
      rw [hat]
      split
      · simp
      · split
        · simp
        · exact hj.2
    · intro j hj hd
      have hjid : id ≠ j := by rintro rfl; exact hj.2 hf
      rw [hat, if_neg hjid] at hd ⊢
      split
      · rename_i h2; rw [if_pos h2] at hd; exact absurd rfl hd
      · rename_i h2
        rw [if_neg h2] at hd
        refine ⟨?_, (hc' j (Ne.symm hjid)).1, (hc' j (Ne.symm hjid)).2⟩
        have h3 := hj.2
        revert hd h3
        cases h.at j <;> simp [AObj.sim]
    · intro b' y hy ho
      by_cases hbb : b' = b
      · subst hbb
        refine hcellx y ?_
        rcases Nat.lt_or_ge y (o + l.length * T.sz) with h1 | h1
        · exact h1
        · exact absurd ⟨i, c.off i, hb, by rw [hi]; rfl, by omega⟩ ho
      · exact blocks_cell (hw.other b' hbb)
    · intro b' hb' ho
      have hbb : b' ≠ b := by
        rintro rfl
        exact ho (c.off i) ⟨i, c.off i, hb, by rw [hi]; rfl, Nat.le_refl _⟩
      exact hw.other b' hbb
    · intro b' y _ ho; exact howns b' y ho
    · rfl
    · intro b' arr' e' fz' ha
      by_cases hbb : b' = b
      · subst hbb
        rw [harr] at ha; cases ha
        exact ⟨cur', fz, hw.here, hcs⟩
      · exact ⟨arr', fz', by rw [hw.other b' hbb]; exact ha, rfl⟩
  obtain ⟨fl, fh⟩ := fz
  have hti := wf.obj i hil
  rw [hi] at hti
  have hfz : fl = fh ∨ fh ≤ o + l.length * T.sz := by
    rcases hti with h0 | ⟨b', arr', e', fz', p1, p2, p3, p4⟩
    · rw [hb] at h0; cases h0
    · rw [hb] at p1; cases p1
      rw [harr] at p2; cases p2
      rw [hoff] at p4
      exact p4
  have wf' : WF w' ((h.set i .dead).set id .tok) (c.put id (some b) (o + (l ++ m).length * T.sz)) := by
    constructor
    · intro b' y ho; exact wf.disj b' y (howns b' y ho)
    · intro b' y he; rw [hw.size]; exact wf.extlt b' y he
    · intro j hj
      rw [hat]
      by_cases h1 : id = j
      · subst h1
        rw [if_pos rfl]
        refine .inr ⟨b, cur', el, (fl, fh), put_blk_eq _ _ _, hw.here, by rw [put_off_eq]; omega, ?_⟩
        rw [put_off_eq]
        have : l.length * T.sz ≤ (l ++ m).length * T.sz := Nat.mul_le_mul_right _ (by simp)
        exact hfz.imp (fun e => e) fun hh => Nat.le_trans hh (by omega)
      · rw [if_neg h1]
        split
        · trivial
        · rename_i h2
          by_cases hl : (h.at j).live
          · refine (wf.obj j (by simpa using hj)).keep x (fun b' hb' => hw.other b' ?_) (hc' j (Ne.symm h1)).1 (hc' j (Ne.symm h1)).2
            rintro rfl
            exact hoth j (Ne.symm h2) hl hb'
          · revert hl; cases h.at j <;> simp [AObj.live, ObjOK]
    · intro j k b' hj hk h1 h2
      rw [hat] at hj hk
      by_cases e1 : id = j <;> by_cases e2 : id = k
      · exact e1.symm.trans e2
      · subst e1
        rw [put_blk_eq] at h1; cases h1
        rw [if_neg e2] at hk
        rw [(hc' k (Ne.symm e2)).1] at h2
        split at hk
        · exact hk.elim
        · rename_i h3; exact absurd h2 (hoth k (Ne.symm h3) hk)
      · subst e2
        rw [put_blk_eq] at h2; cases h2
        rw [if_neg e1] at hj
        rw [(hc' j (Ne.symm e1)).1] at h1
        split at hj
        · exact hj.elim
        · rename_i h3; exact absurd h1 (hoth j (Ne.symm h3) hj)
      · rw [if_neg e1] at hj
        rw [if_neg e2] at hk
        rw [(hc' j (Ne.symm e1)).1] at h1
        rw [(hc' k (Ne.symm e2)).1] at h2
        split at hj
        · exact hj.elim
        · split at hk
          · exact hk.elim
          · exact wf.inj j k b' hj hk h1 h2
    · exact wf.lay_ext x
  refine ⟨_, wf', x, ?_⟩
  have rr : RepL w' ((h.set i .dead).set id .tok) (c.put id (some b) (o + (l ++ m).length * T.sz)) (cellsL T (l ++ m)) (olds ++ news) := by
    rw [cellsL_append]; exact (ro.mono x).append (rn.mono x)
  refine sl_of_cells rr hcap hmx (fun _ => ⟨b, o, rfl, fun j d hd => ?_, fun y h1 h2 => ⟨fun ho => ?_, fun he => ?_⟩⟩) (by simp) (fun k hk => ?_)
  · by_cases hj : j < olds.length
    · rw [List.getElem?_append_left hj] at hd
      have hlne : l ≠ [] := by rintro rfl; simp at hlen1; omega
      rw [hcellx (o + j) (by omega)]
      exact hold hlne j d hd
    · rw [List.getElem?_append_right (by omega)] at hd
      have hj2 : j - olds.length < news.length := (List.getElem?_eq_some_iff.1 hd).1
      have l1 : (arr.toList.take (o + l.length * T.sz)).length = o + l.length * T.sz := by simp only [List.length_take, Array.length_toList]; omega
      rw [cell_of_row w' b _ cur' el (fl, fh) hw.here, ← Array.getElem?_toList, hcur, List.append_assoc, List.getElem?_append_right (by omega), l1, List.getElem?_append_left (by omega)]
      rw [← hd]; congr 1; omega
  · obtain ⟨j, f, g1, g2, g3⟩ := ho
    rw [hat] at g2
    by_cases e1 : id = j
    · subst e1
      rw [if_pos rfl, put_off_eq] at g2
      simp only [AObj.from_, Option.some.injEq] at g2
      omega
    · rw [if_neg e1] at g2
      rw [(hc' j (Ne.symm e1)).1] at g1
      split at g2
      · simp [AObj.from_] at g2
      · rename_i h3; exact hoth j (Ne.symm h3) (from_live g2) g1
  · rcases Nat.lt_or_ge y (o + l.length * T.sz) with q | q
    · exact (hun y h1 q).2 he
    · exact wf.disj b y ⟨i, c.off i, hb, by rw [hi]; rfl, by omega⟩ he
  · cases hk
    refine ⟨⟨by simpa using hid, by rw [hat, if_pos rfl]; simp⟩, fun _ => .inr ⟨b, o, cur', el, (fl, fh), put_blk_eq _ _ _, rfl, put_off_eq _ _ _, hw.here, by rw [hcs]; exact hsz, hte⟩⟩
end
end Go.Yard

