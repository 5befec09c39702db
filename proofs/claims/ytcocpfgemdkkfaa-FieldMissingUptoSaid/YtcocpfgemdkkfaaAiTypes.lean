/-
  The abstract interpreter, part 4: the table of types against the program. Own work.
-/
import Derived.Test.YtcocpfgemdkkfaaAiRel
import Derived.Laws.StructEq
import Derived.WalkKit
namespace Go.Yard
open Go.RowKit

/-- What the table says of the program's types. -/
def TD.Is (P : Program) (t : Nat) : TD → Prop
  | .bool => P.underlying t = some .bool
  | .int k => P.underlying t = some (.int k)
  | .string => P.underlying t = some .string
  | .ptr e => P.underlying t = some (.pointer e)
  | .slice e => P.underlying t = some (.slice e)
  | .arr n e => P.underlying t = some (.array n e)
  | .map k e => P.underlying t = some (.map k e)
  | .struct fs => ∃ F, P.underlying t = some (.struct F) ∧ F.toList.map (fun f => (f.offset, f.type)) = fs
  | .func => ∃ a b c, P.underlying t = some (.func a b c)
  | .iface => ∃ a, P.underlying t = some (.interface a)
  | .other => True

structure TOK (P : Program) (tt : TTab) : Prop where
  und : ∀ t, (tt.at t).d.Is P t
  info : ∀ t, tt.ok t = true → ∃ i z, P.info? t = some i ∧ i.size = (tt.at t).size ∧ i.bytes = (tt.at t).bytes ∧ i.zero = some z ∧ z.cells.size = i.size ∧
    ∀ (w : World) (h : Heap) (c : Cfg), RepL w h c (tt.at t).zero z.cells.toList
  eqs : ∀ t, ∀ (w : World) (h : Heap) (c : Cfg) (cs ds : List V) (xs ys : Array Value) (b : Bool), eqOk (tt.at t) cs ds = true → RepL w h c cs xs.toList → RepL w h c ds ys.toList →
    eqCells cs ds = some b → P.eqGuardType P.depth t = false ∧ (Op.equalIn 10000 t (.agg xs) (.agg ys)).run P w = .ok b w

section
variable {P : Program} {tt : TTab} {w : World}

theorem TOK.isAgg (T : TOK P tt) {t : Nat} (h : tt.ok t = true) : (isAgg t).run P w = .ok (tt.isAgg t) w := by
  have hu := T.und t
  unfold TTab.ok at h
  unfold TTab.isAgg
  cases hd : (tt.at t).d <;> rw [hd] at hu h <;> simp only [TD.Is] at hu
  case struct fs => obtain ⟨F, hF, _⟩ := hu; simp [Go.isAgg, run_underlying hF]
  case func => obtain ⟨a, b, c, hF⟩ := hu; simp [Go.isAgg, run_underlying hF]
  case iface => obtain ⟨a, hF⟩ := hu; simp [Go.isAgg, run_underlying hF]
  case other => cases h
  all_goals simp [Go.isAgg, run_underlying hu]

theorem TOK.sizeOf (T : TOK P tt) {t : Nat} (h : tt.ok t = true) : (sizeOf t).run P w = .ok (tt.at t).size w := by
  obtain ⟨i, z, hi, hs, _⟩ := T.info t h
  simp [Go.sizeOf, typeInfo, hi, hs]

theorem TOK.zero (T : TOK P tt) {t : Nat} (h : tt.ok t = true) : ∃ z, (zeroValue t).run P w = .ok z w ∧ z.cells.size = (tt.at t).size ∧
    ∀ (w : World) (h : Heap) (c : Cfg), RepL w h c (tt.at t).zero z.cells.toList := by
  obtain ⟨i, z, hi, hs, _, hz, hzs, hr⟩ := T.info t h
  exact ⟨z, by simp [Go.zeroValue, typeInfo, hi, hz], by omega, hr⟩

theorem ok_of {t : Nat} {d : TD} (h : (tt.at t).d = d) (hd : d ≠ .other) : tt.ok t = true := by
  unfold TTab.ok; rw [h]; cases d <;> simp_all

theorem und_of (T : TOK P tt) {t : Nat} {d : TD} (h : (tt.at t).d = d) : d.Is P t := h ▸ T.und t

theorem struct_field (T : TOK P tt) {t f off ty : Nat} {fs : List (Nat × Nat)} (h : (tt.at t).d = .struct fs) (hf : fs[f]? = some (off, ty)) :
    ∃ F fd, P.underlying t = some (.struct F) ∧ F[f]? = some fd ∧ fd.offset = off ∧ fd.type = ty := by
  obtain ⟨F, hF, e⟩ := und_of T h
  subst e
  rw [List.getElem?_map] at hf
  cases hx : F.toList[f]? with
  | none => rw [hx] at hf; cases hf
  | some fd =>
    rw [hx] at hf
    simp at hf
    exact ⟨F, fd, hF, by simpa using hx, hf.1, hf.2⟩

variable {h : Heap} {c : Cfg} {R : Type}

/-- A part of cells. -/
theorem partK_sound (T : TOK P tt) {t off : Nat} {cs : List V} {x : Array Value} (hr : RepL w h c cs x.toList) {k : V → Option R} {r : R} (hk : partK tt t cs off k = some r) :
    ∃ v v', (part t x off).run P w = .ok v' w ∧ Rep w h c v v' ∧ k v = some r := by
  unfold partK at hk
  split at hk
  · rename_i hok
    have hlen : cs.length = x.size := by have := hr.1; simpa using this
    split at hk
    · rename_i hagg
      split at hk
      · rename_i hsz
        refine ⟨_, .agg (x.extract off (off + (tt.at t).size)), ?_, ?_, hk⟩
        · simp [part, T.isAgg hok, hagg, T.sizeOf hok]
        · have hrep := (hr.drop off).take (tt.at t).size
          refine .agg ?_ fun j v d hv hd => hrep.2 j v d hv ?_
          · simp [hlen]; omega
          · simp only [Array.getElem?_extract] at hd
            rw [List.getElem?_take, List.getElem?_drop]
            split at hd
            · rename_i hj
              have hj' : j < (tt.at t).size := by omega
              simp only [hj', if_true]; simpa using hd
            · cases hd
      · cases hk
    · rename_i hagg
      split at hk
      · rename_i v hv
        have hlt : off < cs.length := (List.getElem?_eq_some_iff.1 hv).1
        have hx : x[off]? = some (x[off]'(by omega)) := Array.getElem?_eq_getElem (by omega)
        refine ⟨v, x[off]'(by omega), ?_, hr.2 off v _ hv (by simp), hk⟩
        simp [part, T.isAgg hok, hagg, hx]
      · cases hk
  · cases hk
end
end Go.Yard
