/-
  LexerNumbers: for every input whose bulk is at most 1048576 the law returns true, and each argument reads behind the call as it read before; part 6 of 8 of the proof: an interpreter of the model's code over typed data, proved sound; the functions that the law reaches, printed as Lean functions and tied; the plain law. Own texts laid one behind the other.
-/
import Derived.OpenShut
import Derived.JoinedCond
import Derived.Test.YtmlkkgfenfdndaaDoorProg
import Derived.Shelf.Strconv.AtoiAll
import Derived.Shelf.Strconv.Itoa3
import Derived.Shelf.Strconv.ToErrorRange
import Derived.Shelf.Strings.Builder1
import Derived.Shelf.Strings.IndexAnyAll
import Derived.Shelf.Strings.Repeat
import Derived.Shelf.Strings.Search1
import Derived.Shelf.Strings.SlTrimAscii
import Derived.Shelf.Strings.Trim
import Derived.Shelf.Unicode.DecodeAny
import Derived.Test.YtmlkkgfenfdndaaDoorLexerNumbersB5
set_option linter.unusedSimpArgs false
set_option linter.unnecessarySimpa false
set_option linter.unusedVariables false
set_option linter.unusedSectionVars false
namespace Go.Yard
open Go.RowKit Go.ChangeShapes Go.WideShapes Go.Proofs.YtmlkkgfenfdndaaDoor

def kOk : V → Heap → Option Unit := fun v _ => match v with | .bool true => some () | _ => none

def Later (w w' : World) : Prop := w'.os = w.os ∧ w'.output = w.output ∧ w.heap.size ≤ w'.heap.size ∧ ∀ b, b < w.heap.size → w'.heap[b]? = w.heap[b]?

section
variable {H : Type} {enc : TypeId × Value → H} {P : Program} {tt : TTab} {w : World} {spare : Nat → Bool} {held : Bool}

theorem none_owned (c : Cfg) (b y : Nat) : ¬ Owns ([] : Heap) c b y := fun ho => by
  obtain ⟨i, f, _, g2, _⟩ := ho
  simp [Heap.at, AObj.from_] at g2

theorem calls_true {g : Nat} {fn : Func} (hf : P.funcs[g]? = some fn) (hn : (fn.name == "runtime.NumGoroutine") = false) (hb : fn.body.isNone = false) {sp : Spec Unit} (hsp : Spec.Ok P g sp) {vs : List V} {args : Array Value}
    (hs : lay0.says w) (hb0 : ∀ b, lay0.blocks b → b < w.heap.size) (ra : RepL w [] cfg0 vs args.toList) (hk : sp vs [] kOk = some ()) : Calls P g args w fun e w' => e = .returned (.bool true) ∧ Later w w' := by
  obtain ⟨nx, w1, h1, h2⟩ := hsp vs [] kOk () hk w cfg0 args (wf0 w hs hb0) ra
  have hn' : fn.name ≠ "runtime.NumGoroutine" := by simpa using hn
  have hb' : fn.body ≠ none := fun e => by rw [e] at hb; cases hb
  have h0 : (callFunc g args).run P w = .ok (.enter g args) w := by simp [callFunc, hf, hn', hb']
  rw [h0] at h1
  cases h1
  refine Calls.mono h2 fun e w' ⟨d, he, v, h', c', _, x, rv, hv⟩ => ?_
  subst he
  have hv' : v = .bool true := by
    unfold kOk at hv
    split at hv
    · rfl
    · cases hv
  subst hv'
  cases rv
  exact ⟨rfl, x.os, x.output, x.size, fun b hb => x.block b hb (none_owned _ b)⟩

def oneCell (P : Program) (t : TypeId) : Bool :=
  match P.underlying t with
  | some .bool | some (.int _) | some .string | some (.slice _) => true
  | _ => false

theorem arg_one {N : Nat} (hall : LeavesOk P tt) {t : TypeId} {v : Value} {d : DataW H} {ps : List MemPlace} {p : Leaf} {base : Nat} (ho : oneCell P t = true) (hl : leavesOf P tt 8 t = some [p]) (hval : Value.okWide P w .any base t v)
    (h : DataW.Trod enc P w 0 spare held t v d ps) (hb : Rows.uptoBulk d ≤ N) (hN : N ≤ mx) : ∃ x : p.den, Rep w [] cfg0 (p.enc x) v ∧ Small N (p.enc x) := by
  obtain ⟨n, h⟩ := h
  obtain ⟨vs, ⟨x, rfl⟩, h2, h3⟩ := read_trod hall n t _ _ 8 _ h hl hb hN
  have hc : v.cells.toList = [v] := by
    unfold oneCell at ho
    unfold Value.okWide at hval
    cases hu : P.underlying t with
    | none => rw [hu] at ho; cases ho
    | some u =>
      rw [hu] at ho hval
      cases u <;> simp only at ho <;> try (first | cases ho) <;> (cases v <;> simp [Cell.okWide, Cell.ok, hu] at hval <;> rfl)
  rw [hc] at h2
  exact ⟨x.1, h2.head, h3 _ (by show p.enc x.1 ∈ [p.enc x.1]; simp)⟩

theorem params_ok {ts : List TypeId} (h : ts.all (fun t => P.readableRec t && decide (t < P.types.size)) = true) : ∀ t ∈ ts, P.readableRec t = true ∧ t < P.types.size := by
  intro t ht
  have := List.all_eq_true.1 h t ht
  simpa using this

theorem args_later (hl : laidOutB P = true) {w' : World} (L : Later w w') : ∀ {ts : List TypeId} {vs : List Value} {ds : List (DataW H)} {ps : List MemPlace}, (∀ t ∈ ts, P.readableRec t = true ∧ t < P.types.size) →
    DataW.TrodAll enc P w 0 (fun _ => true) true ts vs ds ps → DataW.TrodAll enc P w' 0 (fun b => decide (b < w.heap.size)) true ts vs ds ps
  | [], vs, ds, ps, _, h => by obtain ⟨rfl, rfl, rfl⟩ := trodAll_nil h; exact h
  | t :: ts, vs, ds, ps, hp, h => by
    have hlt := h.lt
    obtain ⟨v, vs1, d, ds1, p, q, rfl, rfl, rfl, h1, h2⟩ := trodAll_cons h
    obtain ⟨hr, hrow⟩ := hp t (by simp)
    have hb : ∀ x ∈ p, x.block < w.heap.size := fun x hx => hlt x (by simp [hx])
    refine trodAll_cons_mk (WideElems.Trod_stays hl hr hrow h1 (fun x hx => ?_) fun x hx => by simpa using hb x hx) (args_later hl L (fun t ht => hp t (by simp [ht])) h2)
    have := L.2.2.2 _ (hb x hx)
    cases x with
    | cell b o => simp only [World.sameAt, World.cell?]; simp only [MemPlace.block] at this; rw [this]
    | map b => exact this

theorem kept_later {w' : World} (L : Later w w') (may : MemPlace → Prop) : w.keptBut w' may := by
  refine ⟨L.1, L.2.1, fun i hi => ?_⟩
  rw [L.2.2.2 i hi]
  cases w.heap[i]? with
  | none => rfl
  | some o => cases o <;> simp

theorem post_true (hl : laidOutB P = true) {f : Func} {s : ChangeSpec} {w' : World} {args : Array Value} {ds gs : List (DataW H)} {before : List MemPlace} {tb : TypeId} (hp : ∀ t ∈ f.params.toList, P.readableRec t = true ∧ t < P.types.size)
    (hv : s.vars = []) (hs : s.fn H (ds ++ gs) = { results := [.lit (.bool true)], args := ds }) (hres : f.resultTypes = #[tb]) (hb : P.underlying tb = some .bool)
    (hW : DataW.Whole enc P f.params.toList s.vars false w args.toList ds gs before) (L : Later w w') : s.post enc P f false true false false w args (.bool true) w' := by
  have hW' := hW
  obtain ⟨p, q, hA, hV, hpq, hz, hn⟩ := hW'
  rw [hv] at hV
  obtain ⟨hg, hq⟩ := trodVars_none hV
  subst hg; subst hq
  refine ⟨ds, [], before, [], p, [], hW, ?_, ?_, ?_, kept_later L _, fun h => by cases h⟩
  · rw [hs, hres]
    exact trodAll_cons_mk (shut_bool hb _) trodAll_mk0
  · rw [hs]
    exact args_later hl L hp hA
  · rw [hs, hv]
    rfl
end
end Go.Yard

namespace Go.Proofs.YtmlkkgfenfdndaaDoor
open Go.Yard

def tt : TTab := [
  ⟨.other, 1, 0, [.undef], none, false, false, false⟩,
  ⟨.func, 1, 8, [.nilfunc], none, false, false, false⟩,
  ⟨.int .i64, 1, 8, [.int .i64 0], some (.int .i64), false, false, false⟩,
  ⟨.int .i64, 1, 8, [.int .i64 0], some (.int .i64), false, false, false⟩,
  ⟨.bool, 1, 1, [.bool false], some .bool, false, false, false⟩,
  ⟨.int .u8, 1, 1, [.int .u8 0], some (.int .u8), false, false, false⟩,
  ⟨.int .u8, 1, 1, [.int .u8 0], none, false, false, false⟩,
  ⟨.struct [(0, 2), (1, 3), (2, 4), (3, 6)], 4, 24, [.int .i64 0, .int .i64 0, .bool false, .int .u8 0], none, false, false, false⟩,
  ⟨.struct [(0, 2), (1, 3), (2, 4), (3, 6)], 4, 24, [.int .i64 0, .int .i64 0, .bool false, .int .u8 0], none, false, false, false⟩,
  ⟨.string, 1, 16, [.str []], some .str, false, false, false⟩,
  ⟨.string, 1, 16, [.str []], some .str, false, false, false⟩,
  ⟨.string, 1, 16, [.str []], some .str, false, false, false⟩,
  ⟨.int .u64, 1, 8, [.int .u64 0], some (.int .u64), false, false, false⟩,
  ⟨.struct [(0, 9), (1, 12)], 2, 24, [.str [], .int .u64 0], none, false, false, false⟩,
  ⟨.struct [(0, 9), (1, 12)], 2, 24, [.str [], .int .u64 0], none, false, false, false⟩,
  ⟨.ptr 146, 1, 8, [.nilptr], none, false, false, false⟩,
  ⟨.ptr 149, 1, 8, [.nilptr], none, false, false, false⟩,
  ⟨.ptr 156, 1, 8, [.nilptr], none, false, false, false⟩,
  ⟨.struct [(0, 17)], 1, 8, [.nilptr], none, false, false, false⟩,
  ⟨.struct [(0, 17)], 1, 8, [.nilptr], none, false, false, false⟩,
  ⟨.iface, 1, 16, [.niliface], none, false, false, false⟩,
  ⟨.int .i32, 1, 4, [.int .i32 0], some (.int .i32), false, false, false⟩,
  ⟨.func, 1, 8, [.nilfunc], none, false, false, false⟩,
  ⟨.slice 34, 1, 24, [.nilsl], none, false, false, false⟩,
  ⟨.int .i64, 1, 8, [.int .i64 0], some (.int .i64), false, false, false⟩,
  ⟨.other, 1, 0, [.undef], none, false, false, false⟩,
  ⟨.func, 1, 8, [.nilfunc], none, false, false, false⟩,
  ⟨.func, 1, 8, [.nilfunc], none, false, false, false⟩,
  ⟨.func, 1, 8, [.nilfunc], none, false, false, false⟩,
  ⟨.struct [(0, 3), (1, 3)], 2, 16, [.int .i64 0, .int .i64 0], none, false, false, false⟩,
  ⟨.struct [(0, 3), (1, 3)], 2, 16, [.int .i64 0, .int .i64 0], some .dcm, true, false, false⟩,
  ⟨.func, 1, 8, [.nilfunc], none, false, false, false⟩,
  ⟨.func, 1, 8, [.nilfunc], none, false, false, false⟩,
  ⟨.struct [(0, 3), (1, 9), (2, 30), (4, 3)], 5, 48, [.int .i64 0, .str [], .int .i64 0, .int .i64 0, .int .i64 0], none, false, false, false⟩,
  ⟨.struct [(0, 3), (1, 9), (2, 30), (4, 3)], 5, 48, [.int .i64 0, .str [], .int .i64 0, .int .i64 0, .int .i64 0], some .token, true, false, false⟩,
  ⟨.func, 1, 8, [.nilfunc], none, false, false, false⟩,
  ⟨.func, 1, 8, [.nilfunc], none, false, false, false⟩,
  ⟨.other, 1, 0, [.undef], none, false, false, false⟩,
  ⟨.func, 1, 8, [.nilfunc], none, false, false, false⟩,
  ⟨.func, 1, 8, [.nilfunc], none, false, false, false⟩,
  ⟨.func, 1, 8, [.nilfunc], none, false, false, false⟩,
  ⟨.func, 1, 8, [.nilfunc], none, false, false, false⟩,
  ⟨.ptr 45, 1, 8, [.nilptr], none, false, false, false⟩,
  ⟨.slice 5, 1, 24, [.nilsl], none, false, false, false⟩,
  ⟨.struct [(0, 42), (1, 43)], 2, 32, [.nilptr, .nilsl], none, false, false, false⟩,
  ⟨.struct [(0, 42), (1, 43)], 2, 32, [.nilptr, .nilsl], none, false, false, true⟩,
  ⟨.iface, 1, 16, [.niliface], none, false, false, false⟩,
  ⟨.iface, 1, 16, [.niliface], none, false, false, false⟩,
  ⟨.func, 1, 8, [.nilfunc], none, false, false, false⟩,
  ⟨.func, 1, 8, [.nilfunc], none, false, false, false⟩,
  ⟨.other, 1, 0, [.undef], none, false, false, false⟩,
  ⟨.func, 1, 8, [.nilfunc], none, false, false, false⟩,
  ⟨.func, 1, 8, [.nilfunc], none, false, false, false⟩,
  ⟨.func, 1, 8, [.nilfunc], none, false, false, false⟩,
  ⟨.other, 1, 0, [.undef], none, false, false, false⟩,
  ⟨.func, 1, 8, [.nilfunc], none, false, false, false⟩,
  ⟨.other, 1, 0, [.undef], none, false, false, false⟩,
  ⟨.func, 1, 8, [.nilfunc], none, false, false, false⟩,
  ⟨.func, 1, 8, [.nilfunc], none, false, false, false⟩,
  ⟨.func, 1, 8, [.nilfunc], none, false, false, false⟩,
  ⟨.func, 1, 8, [.nilfunc], none, false, false, false⟩,
  ⟨.int .u64, 1, 8, [.int .u64 0], some (.int .u64), false, false, false⟩,
  ⟨.other, 1, 0, [.undef], none, false, false, false⟩,
  ⟨.func, 1, 8, [.nilfunc], none, false, false, false⟩,
  ⟨.func, 1, 8, [.nilfunc], none, false, false, false⟩,
  ⟨.func, 1, 8, [.nilfunc], none, false, false, false⟩,
  ⟨.func, 1, 8, [.nilfunc], none, false, false, false⟩,
  ⟨.ptr 5, 1, 8, [.nilptr], none, false, false, false⟩,
  ⟨.func, 1, 8, [.nilfunc], none, false, false, false⟩,
  ⟨.arr 256 4, 256, 256, [.bool false, .bool false, .bool false, .bool false, .bool false, .bool false, .bool false, .bool false, .bool false, .bool false, .bool false, .bool false, .bool false, .bool false, .bool false, .bool false, .bool false, .bool false, .bool false, .bool false, .bool false, .bool false, .bool false, .bool false, .bool false, .bool false, .bool false, .bool false, .bool false, .bool false, .bool false, .bool false, .bool false, .bool false, .bool false, .bool false, .bool false, .bool false, .bool false, .bool false, .bool false, .bool false, .bool false, .bool false, .bool false, .bool false, .bool false, .bool false, .bool false, .bool false, .bool false, .bool false, .bool false, .bool false, .bool false, .bool false, .bool false, .bool false, .bool false, .bool false, .bool false, .bool false, .bool false, .bool false, .bool false, .bool false, .bool false, .bool false, .bool false, .bool false, .bool false, .bool false, .bool false, .bool false, .bool false, .bool false, .bool false, .bool false, .bool false, .bool false, .bool false, .bool false, .bool false, .bool false, .bool false, .bool false, .bool false, .bool false, .bool false, .bool false, .bool false, .bool false, .bool false, .bool false, .bool false, .bool false, .bool false, .bool false, .bool false, .bool false, .bool false, .bool false, .bool false, .bool false, .bool false, .bool false, .bool false, .bool false, .bool false, .bool false, .bool false, .bool false, .bool false, .bool false, .bool false, .bool false, .bool false, .bool false, .bool false, .bool false, .bool false, .bool false, .bool false, .bool false, .bool false, .bool false, .bool false, .bool false, .bool false, .bool false, .bool false, .bool false, .bool false, .bool false, .bool false, .bool false, .bool false, .bool false, .bool false, .bool false, .bool false, .bool false, .bool false, .bool false, .bool false, .bool false, .bool false, .bool false, .bool false, .bool false, .bool false, .bool false, .bool false, .bool false, .bool false, .bool false, .bool false, .bool false, .bool false, .bool false, .bool false, .bool false, .bool false, .bool false, .bool false, .bool false, .bool false, .bool false, .bool false, .bool false, .bool false, .bool false, .bool false, .bool false, .bool false, .bool false, .bool false, .bool false, .bool false, .bool false, .bool false, .bool false, .bool false, .bool false, .bool false, .bool false, .bool false, .bool false, .bool false, .bool false, .bool false, .bool false, .bool false, .bool false, .bool false, .bool false, .bool false, .bool false, .bool false, .bool false, .bool false, .bool false, .bool false, .bool false, .bool false, .bool false, .bool false, .bool false, .bool false, .bool false, .bool false, .bool false, .bool false, .bool false, .bool false, .bool false, .bool false, .bool false, .bool false, .bool false, .bool false, .bool false, .bool false, .bool false, .bool false, .bool false, .bool false, .bool false, .bool false, .bool false, .bool false, .bool false, .bool false, .bool false, .bool false, .bool false, .bool false, .bool false, .bool false, .bool false, .bool false, .bool false, .bool false, .bool false, .bool false, .bool false, .bool false, .bool false, .bool false, .bool false, .bool false, .bool false, .bool false, .bool false, .bool false, .bool false], none, false, false, false⟩,
  ⟨.arr 256 4, 256, 256, [.bool false, .bool false, .bool false, .bool false, .bool false, .bool false, .bool false, .bool false, .bool false, .bool false, .bool false, .bool false, .bool false, .bool false, .bool false, .bool false, .bool false, .bool false, .bool false, .bool false, .bool false, .bool false, .bool false, .bool false, .bool false, .bool false, .bool false, .bool false, .bool false, .bool false, .bool false, .bool false, .bool false, .bool false, .bool false, .bool false, .bool false, .bool false, .bool false, .bool false, .bool false, .bool false, .bool false, .bool false, .bool false, .bool false, .bool false, .bool false, .bool false, .bool false, .bool false, .bool false, .bool false, .bool false, .bool false, .bool false, .bool false, .bool false, .bool false, .bool false, .bool false, .bool false, .bool false, .bool false, .bool false, .bool false, .bool false, .bool false, .bool false, .bool false, .bool false, .bool false, .bool false, .bool false, .bool false, .bool false, .bool false, .bool false, .bool false, .bool false, .bool false, .bool false, .bool false, .bool false, .bool false, .bool false, .bool false, .bool false, .bool false, .bool false, .bool false, .bool false, .bool false, .bool false, .bool false, .bool false, .bool false, .bool false, .bool false, .bool false, .bool false, .bool false, .bool false, .bool false, .bool false, .bool false, .bool false, .bool false, .bool false, .bool false, .bool false, .bool false, .bool false, .bool false, .bool false, .bool false, .bool false, .bool false, .bool false, .bool false, .bool false, .bool false, .bool false, .bool false, .bool false, .bool false, .bool false, .bool false, .bool false, .bool false, .bool false, .bool false, .bool false, .bool false, .bool false, .bool false, .bool false, .bool false, .bool false, .bool false, .bool false, .bool false, .bool false, .bool false, .bool false, .bool false, .bool false, .bool false, .bool false, .bool false, .bool false, .bool false, .bool false, .bool false, .bool false, .bool false, .bool false, .bool false, .bool false, .bool false, .bool false, .bool false, .bool false, .bool false, .bool false, .bool false, .bool false, .bool false, .bool false, .bool false, .bool false, .bool false, .bool false, .bool false, .bool false, .bool false, .bool false, .bool false, .bool false, .bool false, .bool false, .bool false, .bool false, .bool false, .bool false, .bool false, .bool false, .bool false, .bool false, .bool false, .bool false, .bool false, .bool false, .bool false, .bool false, .bool false, .bool false, .bool false, .bool false, .bool false, .bool false, .bool false, .bool false, .bool false, .bool false, .bool false, .bool false, .bool false, .bool false, .bool false, .bool false, .bool false, .bool false, .bool false, .bool false, .bool false, .bool false, .bool false, .bool false, .bool false, .bool false, .bool false, .bool false, .bool false, .bool false, .bool false, .bool false, .bool false, .bool false, .bool false, .bool false, .bool false, .bool false, .bool false, .bool false, .bool false, .bool false, .bool false, .bool false, .bool false, .bool false, .bool false, .bool false, .bool false, .bool false, .bool false, .bool false, .bool false, .bool false, .bool false, .bool false, .bool false, .bool false, .bool false, .bool false, .bool false], none, false, false, false⟩,
  ⟨.other, 1, 0, [.undef], none, false, false, false⟩,
  ⟨.func, 1, 8, [.nilfunc], none, false, false, false⟩,
  ⟨.func, 1, 8, [.nilfunc], none, false, false, false⟩,
  ⟨.ptr 70, 1, 8, [.nilptr], none, false, false, false⟩,
  ⟨.ptr 77, 1, 8, [.nilptr], none, false, false, false⟩,
  ⟨.struct [(0, 9)], 1, 16, [.str []], none, false, false, false⟩,
  ⟨.struct [(0, 9)], 1, 16, [.str []], none, false, false, false⟩,
  ⟨.func, 1, 8, [.nilfunc], none, false, false, false⟩,
  ⟨.other, 1, 0, [.undef], none, false, false, false⟩,
  ⟨.func, 1, 8, [.nilfunc], none, false, false, false⟩,
  ⟨.func, 1, 8, [.nilfunc], none, false, false, false⟩,
  ⟨.ptr 84, 1, 8, [.nilptr], none, false, false, false⟩,
  ⟨.struct [(0, 9)], 1, 16, [.str []], none, false, false, false⟩,
  ⟨.struct [(0, 9)], 1, 16, [.str []], none, false, false, false⟩,
  ⟨.func, 1, 8, [.nilfunc], none, false, false, false⟩,
  ⟨.func, 1, 8, [.nilfunc], none, false, false, false⟩,
  ⟨.other, 1, 0, [.undef], none, false, false, false⟩,
  ⟨.func, 1, 8, [.nilfunc], none, false, false, false⟩,
  ⟨.func, 1, 8, [.nilfunc], none, false, false, false⟩,
  ⟨.other, 1, 8, [.nilptr], none, false, false, false⟩,
  ⟨.func, 1, 8, [.nilfunc], none, false, false, false⟩,
  ⟨.func, 1, 8, [.nilfunc], none, false, false, false⟩,
  ⟨.int .u32, 1, 4, [.int .u32 0], some (.int .u32), false, false, false⟩,
  ⟨.other, 1, 0, [.undef], none, false, false, false⟩,
  ⟨.func, 1, 8, [.nilfunc], none, false, false, false⟩,
  ⟨.int .u64, 1, 8, [.int .u64 0], some (.int .u64), false, false, false⟩,
  ⟨.other, 1, 0, [.undef], none, false, false, false⟩,
  ⟨.func, 1, 8, [.nilfunc], none, false, false, false⟩,
  ⟨.func, 1, 8, [.nilfunc], none, false, false, false⟩,
  ⟨.other, 1, 0, [.undef], none, false, false, false⟩,
  ⟨.func, 1, 8, [.nilfunc], none, false, false, false⟩,
  ⟨.func, 1, 8, [.nilfunc], none, false, false, false⟩,
  ⟨.func, 1, 8, [.nilfunc], none, false, false, false⟩,
  ⟨.other, 1, 0, [.undef], none, false, false, false⟩,
  ⟨.func, 1, 8, [.nilfunc], none, false, false, false⟩,
  ⟨.func, 1, 8, [.nilfunc], none, false, false, false⟩,
  ⟨.func, 1, 8, [.nilfunc], none, false, false, false⟩,
  ⟨.arr 24 5, 24, 24, [.int .u8 0, .int .u8 0, .int .u8 0, .int .u8 0, .int .u8 0, .int .u8 0, .int .u8 0, .int .u8 0, .int .u8 0, .int .u8 0, .int .u8 0, .int .u8 0, .int .u8 0, .int .u8 0, .int .u8 0, .int .u8 0, .int .u8 0, .int .u8 0, .int .u8 0, .int .u8 0, .int .u8 0, .int .u8 0, .int .u8 0, .int .u8 0], none, false, false, false⟩,
  ⟨.func, 1, 8, [.nilfunc], none, false, false, false⟩,
  ⟨.func, 1, 8, [.nilfunc], none, false, false, false⟩,
  ⟨.other, 1, 0, [.undef], none, false, false, false⟩,
  ⟨.func, 1, 8, [.nilfunc], none, false, false, false⟩,
  ⟨.func, 1, 8, [.nilfunc], none, false, false, false⟩,
  ⟨.int .i64, 1, 8, [.int .i64 0], some (.int .i64), false, false, false⟩,
  ⟨.other, 1, 0, [.undef], none, false, false, false⟩,
  ⟨.func, 1, 8, [.nilfunc], none, false, false, false⟩,
  ⟨.ptr 136, 1, 8, [.nilptr], none, false, false, false⟩,
  ⟨.func, 1, 8, [.nilfunc], none, false, false, false⟩,
  ⟨.func, 1, 8, [.nilfunc], none, false, false, false⟩,
  ⟨.func, 1, 8, [.nilfunc], none, false, false, false⟩,
  ⟨.func, 1, 8, [.nilfunc], none, false, false, false⟩,
  ⟨.arr 20 96, 20, 160, [.int .u64 0, .int .u64 0, .int .u64 0, .int .u64 0, .int .u64 0, .int .u64 0, .int .u64 0, .int .u64 0, .int .u64 0, .int .u64 0, .int .u64 0, .int .u64 0, .int .u64 0, .int .u64 0, .int .u64 0, .int .u64 0, .int .u64 0, .int .u64 0, .int .u64 0, .int .u64 0], none, false, false, false⟩,
  ⟨.arr 65 5, 65, 65, [.int .u8 0, .int .u8 0, .int .u8 0, .int .u8 0, .int .u8 0, .int .u8 0, .int .u8 0, .int .u8 0, .int .u8 0, .int .u8 0, .int .u8 0, .int .u8 0, .int .u8 0, .int .u8 0, .int .u8 0, .int .u8 0, .int .u8 0, .int .u8 0, .int .u8 0, .int .u8 0, .int .u8 0, .int .u8 0, .int .u8 0, .int .u8 0, .int .u8 0, .int .u8 0, .int .u8 0, .int .u8 0, .int .u8 0, .int .u8 0, .int .u8 0, .int .u8 0, .int .u8 0, .int .u8 0, .int .u8 0, .int .u8 0, .int .u8 0, .int .u8 0, .int .u8 0, .int .u8 0, .int .u8 0, .int .u8 0, .int .u8 0, .int .u8 0, .int .u8 0, .int .u8 0, .int .u8 0, .int .u8 0, .int .u8 0, .int .u8 0, .int .u8 0, .int .u8 0, .int .u8 0, .int .u8 0, .int .u8 0, .int .u8 0, .int .u8 0, .int .u8 0, .int .u8 0, .int .u8 0, .int .u8 0, .int .u8 0, .int .u8 0, .int .u8 0, .int .u8 0], none, false, false, false⟩,
  ⟨.func, 1, 8, [.nilfunc], none, false, false, false⟩,
  ⟨.func, 1, 8, [.nilfunc], none, false, false, false⟩,
  ⟨.arr 256 5, 256, 256, [.int .u8 0, .int .u8 0, .int .u8 0, .int .u8 0, .int .u8 0, .int .u8 0, .int .u8 0, .int .u8 0, .int .u8 0, .int .u8 0, .int .u8 0, .int .u8 0, .int .u8 0, .int .u8 0, .int .u8 0, .int .u8 0, .int .u8 0, .int .u8 0, .int .u8 0, .int .u8 0, .int .u8 0, .int .u8 0, .int .u8 0, .int .u8 0, .int .u8 0, .int .u8 0, .int .u8 0, .int .u8 0, .int .u8 0, .int .u8 0, .int .u8 0, .int .u8 0, .int .u8 0, .int .u8 0, .int .u8 0, .int .u8 0, .int .u8 0, .int .u8 0, .int .u8 0, .int .u8 0, .int .u8 0, .int .u8 0, .int .u8 0, .int .u8 0, .int .u8 0, .int .u8 0, .int .u8 0, .int .u8 0, .int .u8 0, .int .u8 0, .int .u8 0, .int .u8 0, .int .u8 0, .int .u8 0, .int .u8 0, .int .u8 0, .int .u8 0, .int .u8 0, .int .u8 0, .int .u8 0, .int .u8 0, .int .u8 0, .int .u8 0, .int .u8 0, .int .u8 0, .int .u8 0, .int .u8 0, .int .u8 0, .int .u8 0, .int .u8 0, .int .u8 0, .int .u8 0, .int .u8 0, .int .u8 0, .int .u8 0, .int .u8 0, .int .u8 0, .int .u8 0, .int .u8 0, .int .u8 0, .int .u8 0, .int .u8 0, .int .u8 0, .int .u8 0, .int .u8 0, .int .u8 0, .int .u8 0, .int .u8 0, .int .u8 0, .int .u8 0, .int .u8 0, .int .u8 0, .int .u8 0, .int .u8 0, .int .u8 0, .int .u8 0, .int .u8 0, .int .u8 0, .int .u8 0, .int .u8 0, .int .u8 0, .int .u8 0, .int .u8 0, .int .u8 0, .int .u8 0, .int .u8 0, .int .u8 0, .int .u8 0, .int .u8 0, .int .u8 0, .int .u8 0, .int .u8 0, .int .u8 0, .int .u8 0, .int .u8 0, .int .u8 0, .int .u8 0, .int .u8 0, .int .u8 0, .int .u8 0, .int .u8 0, .int .u8 0, .int .u8 0, .int .u8 0, .int .u8 0, .int .u8 0, .int .u8 0, .int .u8 0, .int .u8 0, .int .u8 0, .int .u8 0, .int .u8 0, .int .u8 0, .int .u8 0, .int .u8 0, .int .u8 0, .int .u8 0, .int .u8 0, .int .u8 0, .int .u8 0, .int .u8 0, .int .u8 0, .int .u8 0, .int .u8 0, .int .u8 0, .int .u8 0, .int .u8 0, .int .u8 0, .int .u8 0, .int .u8 0, .int .u8 0, .int .u8 0, .int .u8 0, .int .u8 0, .int .u8 0, .int .u8 0, .int .u8 0, .int .u8 0, .int .u8 0, .int .u8 0, .int .u8 0, .int .u8 0, .int .u8 0, .int .u8 0, .int .u8 0, .int .u8 0, .int .u8 0, .int .u8 0, .int .u8 0, .int .u8 0, .int .u8 0, .int .u8 0, .int .u8 0, .int .u8 0, .int .u8 0, .int .u8 0, .int .u8 0, .int .u8 0, .int .u8 0, .int .u8 0, .int .u8 0, .int .u8 0, .int .u8 0, .int .u8 0, .int .u8 0, .int .u8 0, .int .u8 0, .int .u8 0, .int .u8 0, .int .u8 0, .int .u8 0, .int .u8 0, .int .u8 0, .int .u8 0, .int .u8 0, .int .u8 0, .int .u8 0, .int .u8 0, .int .u8 0, .int .u8 0, .int .u8 0, .int .u8 0, .int .u8 0, .int .u8 0, .int .u8 0, .int .u8 0, .int .u8 0, .int .u8 0, .int .u8 0, .int .u8 0, .int .u8 0, .int .u8 0, .int .u8 0, .int .u8 0, .int .u8 0, .int .u8 0, .int .u8 0, .int .u8 0, .int .u8 0, .int .u8 0, .int .u8 0, .int .u8 0, .int .u8 0, .int .u8 0, .int .u8 0, .int .u8 0, .int .u8 0, .int .u8 0, .int .u8 0, .int .u8 0, .int .u8 0, .int .u8 0, .int .u8 0, .int .u8 0, .int .u8 0, .int .u8 0, .int .u8 0, .int .u8 0, .int .u8 0, .int .u8 0, .int .u8 0, .int .u8 0, .int .u8 0, .int .u8 0, .int .u8 0, .int .u8 0, .int .u8 0, .int .u8 0, .int .u8 0, .int .u8 0, .int .u8 0, .int .u8 0, .int .u8 0, .int .u8 0, .int .u8 0, .int .u8 0], none, false, false, false⟩,
  ⟨.struct [(0, 5), (1, 5)], 2, 2, [.int .u8 0, .int .u8 0], none, false, false, false⟩,
  ⟨.struct [(0, 5), (1, 5)], 2, 2, [.int .u8 0, .int .u8 0], none, false, false, false⟩,
  ⟨.arr 16 128, 32, 32, [.int .u8 0, .int .u8 0, .int .u8 0, .int .u8 0, .int .u8 0, .int .u8 0, .int .u8 0, .int .u8 0, .int .u8 0, .int .u8 0, .int .u8 0, .int .u8 0, .int .u8 0, .int .u8 0, .int .u8 0, .int .u8 0, .int .u8 0, .int .u8 0, .int .u8 0, .int .u8 0, .int .u8 0, .int .u8 0, .int .u8 0, .int .u8 0, .int .u8 0, .int .u8 0, .int .u8 0, .int .u8 0, .int .u8 0, .int .u8 0, .int .u8 0, .int .u8 0], none, false, false, false⟩,
  ⟨.func, 1, 8, [.nilfunc], none, false, false, false⟩,
  ⟨.func, 1, 8, [.nilfunc], none, false, false, false⟩,
  ⟨.other, 1, 0, [.undef], none, false, false, false⟩,
  ⟨.func, 1, 8, [.nilfunc], none, false, false, false⟩,
  ⟨.func, 1, 8, [.nilfunc], none, false, false, false⟩,
  ⟨.struct [(0, 9), (1, 9), (2, 47)], 3, 48, [.str [], .str [], .niliface], none, false, false, false⟩,
  ⟨.struct [(0, 9), (1, 9), (2, 47)], 3, 48, [.str [], .str [], .niliface], none, false, false, false⟩,
  ⟨.func, 1, 8, [.nilfunc], none, false, false, false⟩,
  ⟨.func, 1, 8, [.nilfunc], none, false, false, false⟩,
  ⟨.func, 1, 8, [.nilfunc], none, false, false, false⟩,
  ⟨.ptr 142, 1, 8, [.nilptr], none, false, false, false⟩,
  ⟨.struct [(0, 9)], 1, 16, [.str []], none, false, false, false⟩,
  ⟨.struct [(0, 9)], 1, 16, [.str []], none, false, false, false⟩,
  ⟨.arr 32 5, 32, 32, [.int .u8 0, .int .u8 0, .int .u8 0, .int .u8 0, .int .u8 0, .int .u8 0, .int .u8 0, .int .u8 0, .int .u8 0, .int .u8 0, .int .u8 0, .int .u8 0, .int .u8 0, .int .u8 0, .int .u8 0, .int .u8 0, .int .u8 0, .int .u8 0, .int .u8 0, .int .u8 0, .int .u8 0, .int .u8 0, .int .u8 0, .int .u8 0, .int .u8 0, .int .u8 0, .int .u8 0, .int .u8 0, .int .u8 0, .int .u8 0, .int .u8 0, .int .u8 0], none, false, false, false⟩,
  ⟨.arr 64 5, 64, 64, [.int .u8 0, .int .u8 0, .int .u8 0, .int .u8 0, .int .u8 0, .int .u8 0, .int .u8 0, .int .u8 0, .int .u8 0, .int .u8 0, .int .u8 0, .int .u8 0, .int .u8 0, .int .u8 0, .int .u8 0, .int .u8 0, .int .u8 0, .int .u8 0, .int .u8 0, .int .u8 0, .int .u8 0, .int .u8 0, .int .u8 0, .int .u8 0, .int .u8 0, .int .u8 0, .int .u8 0, .int .u8 0, .int .u8 0, .int .u8 0, .int .u8 0, .int .u8 0, .int .u8 0, .int .u8 0, .int .u8 0, .int .u8 0, .int .u8 0, .int .u8 0, .int .u8 0, .int .u8 0, .int .u8 0, .int .u8 0, .int .u8 0, .int .u8 0, .int .u8 0, .int .u8 0, .int .u8 0, .int .u8 0, .int .u8 0, .int .u8 0, .int .u8 0, .int .u8 0, .int .u8 0, .int .u8 0, .int .u8 0, .int .u8 0, .int .u8 0, .int .u8 0, .int .u8 0, .int .u8 0, .int .u8 0, .int .u8 0, .int .u8 0, .int .u8 0], none, false, false, false⟩,
  ⟨.struct [(0, 17), (1, 17), (2, 17), (3, 9)], 4, 40, [.nilptr, .nilptr, .nilptr, .str []], none, false, false, false⟩,
  ⟨.struct [(0, 17), (1, 17), (2, 17), (3, 9)], 4, 40, [.nilptr, .nilptr, .nilptr, .str []], none, false, false, false⟩,
  ⟨.arr 0 16, 0, 0, [], none, false, false, false⟩,
  ⟨.struct [(0, 147)], 0, 0, [], none, false, false, false⟩,
  ⟨.struct [(0, 147)], 0, 0, [], none, false, false, false⟩,
  ⟨.int .u8, 1, 1, [.int .u8 0], none, false, false, false⟩,
  ⟨.int .u8, 1, 1, [.int .u8 0], none, false, false, false⟩,
  ⟨.func, 1, 8, [.nilfunc], none, false, false, false⟩,
  ⟨.int .i32, 1, 4, [.int .i32 0], some (.int .i32), false, false, false⟩,
  ⟨.int .i32, 1, 4, [.int .i32 0], some (.int .i32), false, false, false⟩,
  ⟨.struct [(0, 12), (1, 12), (2, 93), (3, 150), (4, 5), (5, 5), (6, 151), (7, 152), (8, 67), (9, 153), (10, 154)], 11, 48, [.int .u64 0, .int .u64 0, .int .u32 0, .int .u8 0, .int .u8 0, .int .u8 0, .int .u8 0, .nilfunc, .nilptr, .int .i32 0, .int .i32 0], none, false, false, false⟩,
  ⟨.struct [(0, 12), (1, 12), (2, 93), (3, 150), (4, 5), (5, 5), (6, 151), (7, 152), (8, 67), (9, 153), (10, 154)], 11, 48, [.int .u64 0, .int .u64 0, .int .u32 0, .int .u8 0, .int .u8 0, .int .u8 0, .int .u8 0, .nilfunc, .nilptr, .int .i32 0, .int .i32 0], none, false, false, false⟩]

end Go.Proofs.YtmlkkgfenfdndaaDoor

set_option maxRecDepth 100000
set_option linter.unusedVariables false
namespace Go.Proofs.YtmlkkgfenfdndaaDoor
open Go Go.Yard

theorem ttLen : tt.length = 157 := by kernel_rfl
theorem und1 : (tt.at 1).d.Is Tryd.prog 1 := ⟨_, _, _, rfl⟩
theorem inf1 : InfoOk Tryd.prog tt 1 := ⟨Tryd.t1, by kernel_rfl, by kernel_rfl, by kernel_rfl, by kernel_rfl⟩
theorem und2 : (tt.at 2).d.Is Tryd.prog 2 := (by kernel_rfl : Tryd.prog.underlying 2 = some (.int .i64))
theorem inf2 : InfoOk Tryd.prog tt 2 := ⟨Tryd.t2, by kernel_rfl, by kernel_rfl, by kernel_rfl, by kernel_rfl⟩
theorem und3 : (tt.at 3).d.Is Tryd.prog 3 := (by kernel_rfl : Tryd.prog.underlying 3 = some (.int .i64))
theorem inf3 : InfoOk Tryd.prog tt 3 := ⟨Tryd.t3, by kernel_rfl, by kernel_rfl, by kernel_rfl, by kernel_rfl⟩
theorem und4 : (tt.at 4).d.Is Tryd.prog 4 := (by kernel_rfl : Tryd.prog.underlying 4 = some .bool)
theorem inf4 : InfoOk Tryd.prog tt 4 := ⟨Tryd.t4, by kernel_rfl, by kernel_rfl, by kernel_rfl, by kernel_rfl⟩
theorem und5 : (tt.at 5).d.Is Tryd.prog 5 := (by kernel_rfl : Tryd.prog.underlying 5 = some (.int .u8))
theorem inf5 : InfoOk Tryd.prog tt 5 := ⟨Tryd.t5, by kernel_rfl, by kernel_rfl, by kernel_rfl, by kernel_rfl⟩
theorem und6 : (tt.at 6).d.Is Tryd.prog 6 := (by kernel_rfl : Tryd.prog.underlying 6 = some (.int .u8))
theorem inf6 : InfoOk Tryd.prog tt 6 := ⟨Tryd.t6, by kernel_rfl, by kernel_rfl, by kernel_rfl, by kernel_rfl⟩
theorem und7 : (tt.at 7).d.Is Tryd.prog 7 := ⟨Tryd.prog.fieldsOf 7, by kernel_rfl, by kernel_rfl⟩
theorem inf7 : InfoOk Tryd.prog tt 7 := ⟨Tryd.t7, by kernel_rfl, by kernel_rfl, by kernel_rfl, by kernel_rfl⟩
theorem und8 : (tt.at 8).d.Is Tryd.prog 8 := ⟨Tryd.prog.fieldsOf 8, by kernel_rfl, by kernel_rfl⟩
theorem inf8 : InfoOk Tryd.prog tt 8 := ⟨Tryd.t8, by kernel_rfl, by kernel_rfl, by kernel_rfl, by kernel_rfl⟩
theorem und9 : (tt.at 9).d.Is Tryd.prog 9 := (by kernel_rfl : Tryd.prog.underlying 9 = some .string)
theorem inf9 : InfoOk Tryd.prog tt 9 := ⟨Tryd.t9, by kernel_rfl, by kernel_rfl, by kernel_rfl, by kernel_rfl⟩
theorem und10 : (tt.at 10).d.Is Tryd.prog 10 := (by kernel_rfl : Tryd.prog.underlying 10 = some .string)
theorem inf10 : InfoOk Tryd.prog tt 10 := ⟨Tryd.t10, by kernel_rfl, by kernel_rfl, by kernel_rfl, by kernel_rfl⟩
theorem und11 : (tt.at 11).d.Is Tryd.prog 11 := (by kernel_rfl : Tryd.prog.underlying 11 = some .string)
theorem inf11 : InfoOk Tryd.prog tt 11 := ⟨Tryd.t11, by kernel_rfl, by kernel_rfl, by kernel_rfl, by kernel_rfl⟩
theorem und12 : (tt.at 12).d.Is Tryd.prog 12 := (by kernel_rfl : Tryd.prog.underlying 12 = some (.int .u64))
theorem inf12 : InfoOk Tryd.prog tt 12 := ⟨Tryd.t12, by kernel_rfl, by kernel_rfl, by kernel_rfl, by kernel_rfl⟩
theorem und13 : (tt.at 13).d.Is Tryd.prog 13 := ⟨Tryd.prog.fieldsOf 13, by kernel_rfl, by kernel_rfl⟩
theorem inf13 : InfoOk Tryd.prog tt 13 := ⟨Tryd.t13, by kernel_rfl, by kernel_rfl, by kernel_rfl, by kernel_rfl⟩
theorem und14 : (tt.at 14).d.Is Tryd.prog 14 := ⟨Tryd.prog.fieldsOf 14, by kernel_rfl, by kernel_rfl⟩
theorem inf14 : InfoOk Tryd.prog tt 14 := ⟨Tryd.t14, by kernel_rfl, by kernel_rfl, by kernel_rfl, by kernel_rfl⟩
theorem und15 : (tt.at 15).d.Is Tryd.prog 15 := (by kernel_rfl : Tryd.prog.underlying 15 = some (.pointer 146))
theorem inf15 : InfoOk Tryd.prog tt 15 := ⟨Tryd.t15, by kernel_rfl, by kernel_rfl, by kernel_rfl, by kernel_rfl⟩
theorem und16 : (tt.at 16).d.Is Tryd.prog 16 := (by kernel_rfl : Tryd.prog.underlying 16 = some (.pointer 149))
theorem inf16 : InfoOk Tryd.prog tt 16 := ⟨Tryd.t16, by kernel_rfl, by kernel_rfl, by kernel_rfl, by kernel_rfl⟩
theorem und17 : (tt.at 17).d.Is Tryd.prog 17 := (by kernel_rfl : Tryd.prog.underlying 17 = some (.pointer 156))
theorem inf17 : InfoOk Tryd.prog tt 17 := ⟨Tryd.t17, by kernel_rfl, by kernel_rfl, by kernel_rfl, by kernel_rfl⟩
theorem und18 : (tt.at 18).d.Is Tryd.prog 18 := ⟨Tryd.prog.fieldsOf 18, by kernel_rfl, by kernel_rfl⟩
theorem inf18 : InfoOk Tryd.prog tt 18 := ⟨Tryd.t18, by kernel_rfl, by kernel_rfl, by kernel_rfl, by kernel_rfl⟩
theorem und19 : (tt.at 19).d.Is Tryd.prog 19 := ⟨Tryd.prog.fieldsOf 19, by kernel_rfl, by kernel_rfl⟩
theorem inf19 : InfoOk Tryd.prog tt 19 := ⟨Tryd.t19, by kernel_rfl, by kernel_rfl, by kernel_rfl, by kernel_rfl⟩
theorem und20 : (tt.at 20).d.Is Tryd.prog 20 := ⟨_, rfl⟩
theorem inf20 : InfoOk Tryd.prog tt 20 := ⟨Tryd.t20, by kernel_rfl, by kernel_rfl, by kernel_rfl, by kernel_rfl⟩
theorem und21 : (tt.at 21).d.Is Tryd.prog 21 := (by kernel_rfl : Tryd.prog.underlying 21 = some (.int .i32))
theorem inf21 : InfoOk Tryd.prog tt 21 := ⟨Tryd.t21, by kernel_rfl, by kernel_rfl, by kernel_rfl, by kernel_rfl⟩
theorem und22 : (tt.at 22).d.Is Tryd.prog 22 := ⟨_, _, _, rfl⟩
theorem inf22 : InfoOk Tryd.prog tt 22 := ⟨Tryd.t22, by kernel_rfl, by kernel_rfl, by kernel_rfl, by kernel_rfl⟩
theorem und23 : (tt.at 23).d.Is Tryd.prog 23 := (by kernel_rfl : Tryd.prog.underlying 23 = some (.slice 34))
theorem inf23 : InfoOk Tryd.prog tt 23 := ⟨Tryd.t23, by kernel_rfl, by kernel_rfl, by kernel_rfl, by kernel_rfl⟩
theorem und24 : (tt.at 24).d.Is Tryd.prog 24 := (by kernel_rfl : Tryd.prog.underlying 24 = some (.int .i64))
theorem inf24 : InfoOk Tryd.prog tt 24 := ⟨Tryd.t24, by kernel_rfl, by kernel_rfl, by kernel_rfl, by kernel_rfl⟩
theorem und26 : (tt.at 26).d.Is Tryd.prog 26 := ⟨_, _, _, rfl⟩
theorem inf26 : InfoOk Tryd.prog tt 26 := ⟨Tryd.t26, by kernel_rfl, by kernel_rfl, by kernel_rfl, by kernel_rfl⟩
theorem und27 : (tt.at 27).d.Is Tryd.prog 27 := ⟨_, _, _, rfl⟩
theorem inf27 : InfoOk Tryd.prog tt 27 := ⟨Tryd.t27, by kernel_rfl, by kernel_rfl, by kernel_rfl, by kernel_rfl⟩
theorem und28 : (tt.at 28).d.Is Tryd.prog 28 := ⟨_, _, _, rfl⟩
theorem inf28 : InfoOk Tryd.prog tt 28 := ⟨Tryd.t28, by kernel_rfl, by kernel_rfl, by kernel_rfl, by kernel_rfl⟩
theorem und29 : (tt.at 29).d.Is Tryd.prog 29 := ⟨Tryd.prog.fieldsOf 29, by kernel_rfl, by kernel_rfl⟩
theorem inf29 : InfoOk Tryd.prog tt 29 := ⟨Tryd.t29, by kernel_rfl, by kernel_rfl, by kernel_rfl, by kernel_rfl⟩
theorem und30 : (tt.at 30).d.Is Tryd.prog 30 := ⟨Tryd.prog.fieldsOf 30, by kernel_rfl, by kernel_rfl⟩
theorem inf30 : InfoOk Tryd.prog tt 30 := ⟨Tryd.t30, by kernel_rfl, by kernel_rfl, by kernel_rfl, by kernel_rfl⟩
theorem und31 : (tt.at 31).d.Is Tryd.prog 31 := ⟨_, _, _, rfl⟩
theorem inf31 : InfoOk Tryd.prog tt 31 := ⟨Tryd.t31, by kernel_rfl, by kernel_rfl, by kernel_rfl, by kernel_rfl⟩
theorem und32 : (tt.at 32).d.Is Tryd.prog 32 := ⟨_, _, _, rfl⟩
theorem inf32 : InfoOk Tryd.prog tt 32 := ⟨Tryd.t32, by kernel_rfl, by kernel_rfl, by kernel_rfl, by kernel_rfl⟩
theorem und33 : (tt.at 33).d.Is Tryd.prog 33 := ⟨Tryd.prog.fieldsOf 33, by kernel_rfl, by kernel_rfl⟩
theorem inf33 : InfoOk Tryd.prog tt 33 := ⟨Tryd.t33, by kernel_rfl, by kernel_rfl, by kernel_rfl, by kernel_rfl⟩
theorem und34 : (tt.at 34).d.Is Tryd.prog 34 := ⟨Tryd.prog.fieldsOf 34, by kernel_rfl, by kernel_rfl⟩
theorem inf34 : InfoOk Tryd.prog tt 34 := ⟨Tryd.t34, by kernel_rfl, by kernel_rfl, by kernel_rfl, by kernel_rfl⟩
theorem und35 : (tt.at 35).d.Is Tryd.prog 35 := ⟨_, _, _, rfl⟩
theorem inf35 : InfoOk Tryd.prog tt 35 := ⟨Tryd.t35, by kernel_rfl, by kernel_rfl, by kernel_rfl, by kernel_rfl⟩
theorem und36 : (tt.at 36).d.Is Tryd.prog 36 := ⟨_, _, _, rfl⟩
theorem inf36 : InfoOk Tryd.prog tt 36 := ⟨Tryd.t36, by kernel_rfl, by kernel_rfl, by kernel_rfl, by kernel_rfl⟩
theorem und38 : (tt.at 38).d.Is Tryd.prog 38 := ⟨_, _, _, rfl⟩
theorem inf38 : InfoOk Tryd.prog tt 38 := ⟨Tryd.t38, by kernel_rfl, by kernel_rfl, by kernel_rfl, by kernel_rfl⟩
theorem und39 : (tt.at 39).d.Is Tryd.prog 39 := ⟨_, _, _, rfl⟩
theorem inf39 : InfoOk Tryd.prog tt 39 := ⟨Tryd.t39, by kernel_rfl, by kernel_rfl, by kernel_rfl, by kernel_rfl⟩
theorem und40 : (tt.at 40).d.Is Tryd.prog 40 := ⟨_, _, _, rfl⟩
theorem inf40 : InfoOk Tryd.prog tt 40 := ⟨Tryd.t40, by kernel_rfl, by kernel_rfl, by kernel_rfl, by kernel_rfl⟩
theorem und41 : (tt.at 41).d.Is Tryd.prog 41 := ⟨_, _, _, rfl⟩
theorem inf41 : InfoOk Tryd.prog tt 41 := ⟨Tryd.t41, by kernel_rfl, by kernel_rfl, by kernel_rfl, by kernel_rfl⟩
theorem und42 : (tt.at 42).d.Is Tryd.prog 42 := (by kernel_rfl : Tryd.prog.underlying 42 = some (.pointer 45))
theorem inf42 : InfoOk Tryd.prog tt 42 := ⟨Tryd.t42, by kernel_rfl, by kernel_rfl, by kernel_rfl, by kernel_rfl⟩
theorem und43 : (tt.at 43).d.Is Tryd.prog 43 := (by kernel_rfl : Tryd.prog.underlying 43 = some (.slice 5))
theorem inf43 : InfoOk Tryd.prog tt 43 := ⟨Tryd.t43, by kernel_rfl, by kernel_rfl, by kernel_rfl, by kernel_rfl⟩
theorem und44 : (tt.at 44).d.Is Tryd.prog 44 := ⟨Tryd.prog.fieldsOf 44, by kernel_rfl, by kernel_rfl⟩
theorem inf44 : InfoOk Tryd.prog tt 44 := ⟨Tryd.t44, by kernel_rfl, by kernel_rfl, by kernel_rfl, by kernel_rfl⟩
theorem und45 : (tt.at 45).d.Is Tryd.prog 45 := ⟨Tryd.prog.fieldsOf 45, by kernel_rfl, by kernel_rfl⟩
theorem inf45 : InfoOk Tryd.prog tt 45 := ⟨Tryd.t45, by kernel_rfl, by kernel_rfl, by kernel_rfl, by kernel_rfl⟩
theorem und46 : (tt.at 46).d.Is Tryd.prog 46 := ⟨_, rfl⟩
theorem inf46 : InfoOk Tryd.prog tt 46 := ⟨Tryd.t46, by kernel_rfl, by kernel_rfl, by kernel_rfl, by kernel_rfl⟩
theorem und47 : (tt.at 47).d.Is Tryd.prog 47 := ⟨_, rfl⟩
theorem inf47 : InfoOk Tryd.prog tt 47 := ⟨Tryd.t47, by kernel_rfl, by kernel_rfl, by kernel_rfl, by kernel_rfl⟩
theorem und48 : (tt.at 48).d.Is Tryd.prog 48 := ⟨_, _, _, rfl⟩
theorem inf48 : InfoOk Tryd.prog tt 48 := ⟨Tryd.t48, by kernel_rfl, by kernel_rfl, by kernel_rfl, by kernel_rfl⟩
theorem und49 : (tt.at 49).d.Is Tryd.prog 49 := ⟨_, _, _, rfl⟩
theorem inf49 : InfoOk Tryd.prog tt 49 := ⟨Tryd.t49, by kernel_rfl, by kernel_rfl, by kernel_rfl, by kernel_rfl⟩
theorem und51 : (tt.at 51).d.Is Tryd.prog 51 := ⟨_, _, _, rfl⟩
theorem inf51 : InfoOk Tryd.prog tt 51 := ⟨Tryd.t51, by kernel_rfl, by kernel_rfl, by kernel_rfl, by kernel_rfl⟩
theorem und52 : (tt.at 52).d.Is Tryd.prog 52 := ⟨_, _, _, rfl⟩
theorem inf52 : InfoOk Tryd.prog tt 52 := ⟨Tryd.t52, by kernel_rfl, by kernel_rfl, by kernel_rfl, by kernel_rfl⟩
theorem und53 : (tt.at 53).d.Is Tryd.prog 53 := ⟨_, _, _, rfl⟩
theorem inf53 : InfoOk Tryd.prog tt 53 := ⟨Tryd.t53, by kernel_rfl, by kernel_rfl, by kernel_rfl, by kernel_rfl⟩
theorem und55 : (tt.at 55).d.Is Tryd.prog 55 := ⟨_, _, _, rfl⟩
theorem inf55 : InfoOk Tryd.prog tt 55 := ⟨Tryd.t55, by kernel_rfl, by kernel_rfl, by kernel_rfl, by kernel_rfl⟩
theorem und57 : (tt.at 57).d.Is Tryd.prog 57 := ⟨_, _, _, rfl⟩
theorem inf57 : InfoOk Tryd.prog tt 57 := ⟨Tryd.t57, by kernel_rfl, by kernel_rfl, by kernel_rfl, by kernel_rfl⟩
theorem und58 : (tt.at 58).d.Is Tryd.prog 58 := ⟨_, _, _, rfl⟩
theorem inf58 : InfoOk Tryd.prog tt 58 := ⟨Tryd.t58, by kernel_rfl, by kernel_rfl, by kernel_rfl, by kernel_rfl⟩
theorem und59 : (tt.at 59).d.Is Tryd.prog 59 := ⟨_, _, _, rfl⟩
theorem inf59 : InfoOk Tryd.prog tt 59 := ⟨Tryd.t59, by kernel_rfl, by kernel_rfl, by kernel_rfl, by kernel_rfl⟩
theorem und60 : (tt.at 60).d.Is Tryd.prog 60 := ⟨_, _, _, rfl⟩
theorem inf60 : InfoOk Tryd.prog tt 60 := ⟨Tryd.t60, by kernel_rfl, by kernel_rfl, by kernel_rfl, by kernel_rfl⟩
theorem und61 : (tt.at 61).d.Is Tryd.prog 61 := (by kernel_rfl : Tryd.prog.underlying 61 = some (.int .u64))
theorem inf61 : InfoOk Tryd.prog tt 61 := ⟨Tryd.t61, by kernel_rfl, by kernel_rfl, by kernel_rfl, by kernel_rfl⟩
theorem und63 : (tt.at 63).d.Is Tryd.prog 63 := ⟨_, _, _, rfl⟩
theorem inf63 : InfoOk Tryd.prog tt 63 := ⟨Tryd.t63, by kernel_rfl, by kernel_rfl, by kernel_rfl, by kernel_rfl⟩
theorem und64 : (tt.at 64).d.Is Tryd.prog 64 := ⟨_, _, _, rfl⟩
theorem inf64 : InfoOk Tryd.prog tt 64 := ⟨Tryd.t64, by kernel_rfl, by kernel_rfl, by kernel_rfl, by kernel_rfl⟩
theorem und65 : (tt.at 65).d.Is Tryd.prog 65 := ⟨_, _, _, rfl⟩
theorem inf65 : InfoOk Tryd.prog tt 65 := ⟨Tryd.t65, by kernel_rfl, by kernel_rfl, by kernel_rfl, by kernel_rfl⟩
theorem und66 : (tt.at 66).d.Is Tryd.prog 66 := ⟨_, _, _, rfl⟩
theorem inf66 : InfoOk Tryd.prog tt 66 := ⟨Tryd.t66, by kernel_rfl, by kernel_rfl, by kernel_rfl, by kernel_rfl⟩
theorem und67 : (tt.at 67).d.Is Tryd.prog 67 := (by kernel_rfl : Tryd.prog.underlying 67 = some (.pointer 5))
theorem inf67 : InfoOk Tryd.prog tt 67 := ⟨Tryd.t67, by kernel_rfl, by kernel_rfl, by kernel_rfl, by kernel_rfl⟩
theorem und68 : (tt.at 68).d.Is Tryd.prog 68 := ⟨_, _, _, rfl⟩
theorem inf68 : InfoOk Tryd.prog tt 68 := ⟨Tryd.t68, by kernel_rfl, by kernel_rfl, by kernel_rfl, by kernel_rfl⟩
theorem und69 : (tt.at 69).d.Is Tryd.prog 69 := (by kernel_rfl : Tryd.prog.underlying 69 = some (.array 256 4))
theorem inf69 : InfoOk Tryd.prog tt 69 := ⟨Tryd.t69, by kernel_rfl, by kernel_rfl, by kernel_rfl, by kernel_rfl⟩
theorem und70 : (tt.at 70).d.Is Tryd.prog 70 := (by kernel_rfl : Tryd.prog.underlying 70 = some (.array 256 4))
theorem inf70 : InfoOk Tryd.prog tt 70 := ⟨Tryd.t70, by kernel_rfl, by kernel_rfl, by kernel_rfl, by kernel_rfl⟩
theorem und72 : (tt.at 72).d.Is Tryd.prog 72 := ⟨_, _, _, rfl⟩
theorem inf72 : InfoOk Tryd.prog tt 72 := ⟨Tryd.t72, by kernel_rfl, by kernel_rfl, by kernel_rfl, by kernel_rfl⟩
theorem und73 : (tt.at 73).d.Is Tryd.prog 73 := ⟨_, _, _, rfl⟩
theorem inf73 : InfoOk Tryd.prog tt 73 := ⟨Tryd.t73, by kernel_rfl, by kernel_rfl, by kernel_rfl, by kernel_rfl⟩
theorem und74 : (tt.at 74).d.Is Tryd.prog 74 := (by kernel_rfl : Tryd.prog.underlying 74 = some (.pointer 70))
theorem inf74 : InfoOk Tryd.prog tt 74 := ⟨Tryd.t74, by kernel_rfl, by kernel_rfl, by kernel_rfl, by kernel_rfl⟩
theorem und75 : (tt.at 75).d.Is Tryd.prog 75 := (by kernel_rfl : Tryd.prog.underlying 75 = some (.pointer 77))
theorem inf75 : InfoOk Tryd.prog tt 75 := ⟨Tryd.t75, by kernel_rfl, by kernel_rfl, by kernel_rfl, by kernel_rfl⟩
theorem und76 : (tt.at 76).d.Is Tryd.prog 76 := ⟨Tryd.prog.fieldsOf 76, by kernel_rfl, by kernel_rfl⟩
theorem inf76 : InfoOk Tryd.prog tt 76 := ⟨Tryd.t76, by kernel_rfl, by kernel_rfl, by kernel_rfl, by kernel_rfl⟩
theorem und77 : (tt.at 77).d.Is Tryd.prog 77 := ⟨Tryd.prog.fieldsOf 77, by kernel_rfl, by kernel_rfl⟩
theorem inf77 : InfoOk Tryd.prog tt 77 := ⟨Tryd.t77, by kernel_rfl, by kernel_rfl, by kernel_rfl, by kernel_rfl⟩
theorem und78 : (tt.at 78).d.Is Tryd.prog 78 := ⟨_, _, _, rfl⟩
theorem inf78 : InfoOk Tryd.prog tt 78 := ⟨Tryd.t78, by kernel_rfl, by kernel_rfl, by kernel_rfl, by kernel_rfl⟩
theorem und80 : (tt.at 80).d.Is Tryd.prog 80 := ⟨_, _, _, rfl⟩
theorem inf80 : InfoOk Tryd.prog tt 80 := ⟨Tryd.t80, by kernel_rfl, by kernel_rfl, by kernel_rfl, by kernel_rfl⟩
theorem und81 : (tt.at 81).d.Is Tryd.prog 81 := ⟨_, _, _, rfl⟩
theorem inf81 : InfoOk Tryd.prog tt 81 := ⟨Tryd.t81, by kernel_rfl, by kernel_rfl, by kernel_rfl, by kernel_rfl⟩
theorem und82 : (tt.at 82).d.Is Tryd.prog 82 := (by kernel_rfl : Tryd.prog.underlying 82 = some (.pointer 84))
theorem inf82 : InfoOk Tryd.prog tt 82 := ⟨Tryd.t82, by kernel_rfl, by kernel_rfl, by kernel_rfl, by kernel_rfl⟩
theorem und83 : (tt.at 83).d.Is Tryd.prog 83 := ⟨Tryd.prog.fieldsOf 83, by kernel_rfl, by kernel_rfl⟩
theorem inf83 : InfoOk Tryd.prog tt 83 := ⟨Tryd.t83, by kernel_rfl, by kernel_rfl, by kernel_rfl, by kernel_rfl⟩
theorem und84 : (tt.at 84).d.Is Tryd.prog 84 := ⟨Tryd.prog.fieldsOf 84, by kernel_rfl, by kernel_rfl⟩
theorem inf84 : InfoOk Tryd.prog tt 84 := ⟨Tryd.t84, by kernel_rfl, by kernel_rfl, by kernel_rfl, by kernel_rfl⟩
theorem und85 : (tt.at 85).d.Is Tryd.prog 85 := ⟨_, _, _, rfl⟩
theorem inf85 : InfoOk Tryd.prog tt 85 := ⟨Tryd.t85, by kernel_rfl, by kernel_rfl, by kernel_rfl, by kernel_rfl⟩
theorem und86 : (tt.at 86).d.Is Tryd.prog 86 := ⟨_, _, _, rfl⟩
theorem inf86 : InfoOk Tryd.prog tt 86 := ⟨Tryd.t86, by kernel_rfl, by kernel_rfl, by kernel_rfl, by kernel_rfl⟩
theorem und88 : (tt.at 88).d.Is Tryd.prog 88 := ⟨_, _, _, rfl⟩
theorem inf88 : InfoOk Tryd.prog tt 88 := ⟨Tryd.t88, by kernel_rfl, by kernel_rfl, by kernel_rfl, by kernel_rfl⟩
theorem und89 : (tt.at 89).d.Is Tryd.prog 89 := ⟨_, _, _, rfl⟩
theorem inf89 : InfoOk Tryd.prog tt 89 := ⟨Tryd.t89, by kernel_rfl, by kernel_rfl, by kernel_rfl, by kernel_rfl⟩
theorem und91 : (tt.at 91).d.Is Tryd.prog 91 := ⟨_, _, _, rfl⟩
theorem inf91 : InfoOk Tryd.prog tt 91 := ⟨Tryd.t91, by kernel_rfl, by kernel_rfl, by kernel_rfl, by kernel_rfl⟩
theorem und92 : (tt.at 92).d.Is Tryd.prog 92 := ⟨_, _, _, rfl⟩
theorem inf92 : InfoOk Tryd.prog tt 92 := ⟨Tryd.t92, by kernel_rfl, by kernel_rfl, by kernel_rfl, by kernel_rfl⟩
theorem und93 : (tt.at 93).d.Is Tryd.prog 93 := (by kernel_rfl : Tryd.prog.underlying 93 = some (.int .u32))
theorem inf93 : InfoOk Tryd.prog tt 93 := ⟨Tryd.t93, by kernel_rfl, by kernel_rfl, by kernel_rfl, by kernel_rfl⟩
theorem und95 : (tt.at 95).d.Is Tryd.prog 95 := ⟨_, _, _, rfl⟩
theorem inf95 : InfoOk Tryd.prog tt 95 := ⟨Tryd.t95, by kernel_rfl, by kernel_rfl, by kernel_rfl, by kernel_rfl⟩
theorem und96 : (tt.at 96).d.Is Tryd.prog 96 := (by kernel_rfl : Tryd.prog.underlying 96 = some (.int .u64))
theorem inf96 : InfoOk Tryd.prog tt 96 := ⟨Tryd.t96, by kernel_rfl, by kernel_rfl, by kernel_rfl, by kernel_rfl⟩
theorem und98 : (tt.at 98).d.Is Tryd.prog 98 := ⟨_, _, _, rfl⟩
theorem inf98 : InfoOk Tryd.prog tt 98 := ⟨Tryd.t98, by kernel_rfl, by kernel_rfl, by kernel_rfl, by kernel_rfl⟩
theorem und99 : (tt.at 99).d.Is Tryd.prog 99 := ⟨_, _, _, rfl⟩
theorem inf99 : InfoOk Tryd.prog tt 99 := ⟨Tryd.t99, by kernel_rfl, by kernel_rfl, by kernel_rfl, by kernel_rfl⟩
theorem und101 : (tt.at 101).d.Is Tryd.prog 101 := ⟨_, _, _, rfl⟩
theorem inf101 : InfoOk Tryd.prog tt 101 := ⟨Tryd.t101, by kernel_rfl, by kernel_rfl, by kernel_rfl, by kernel_rfl⟩
theorem und102 : (tt.at 102).d.Is Tryd.prog 102 := ⟨_, _, _, rfl⟩
theorem inf102 : InfoOk Tryd.prog tt 102 := ⟨Tryd.t102, by kernel_rfl, by kernel_rfl, by kernel_rfl, by kernel_rfl⟩
theorem und103 : (tt.at 103).d.Is Tryd.prog 103 := ⟨_, _, _, rfl⟩
theorem inf103 : InfoOk Tryd.prog tt 103 := ⟨Tryd.t103, by kernel_rfl, by kernel_rfl, by kernel_rfl, by kernel_rfl⟩
theorem und105 : (tt.at 105).d.Is Tryd.prog 105 := ⟨_, _, _, rfl⟩
theorem inf105 : InfoOk Tryd.prog tt 105 := ⟨Tryd.t105, by kernel_rfl, by kernel_rfl, by kernel_rfl, by kernel_rfl⟩
theorem und106 : (tt.at 106).d.Is Tryd.prog 106 := ⟨_, _, _, rfl⟩
theorem inf106 : InfoOk Tryd.prog tt 106 := ⟨Tryd.t106, by kernel_rfl, by kernel_rfl, by kernel_rfl, by kernel_rfl⟩
theorem und107 : (tt.at 107).d.Is Tryd.prog 107 := ⟨_, _, _, rfl⟩
theorem inf107 : InfoOk Tryd.prog tt 107 := ⟨Tryd.t107, by kernel_rfl, by kernel_rfl, by kernel_rfl, by kernel_rfl⟩
theorem und108 : (tt.at 108).d.Is Tryd.prog 108 := (by kernel_rfl : Tryd.prog.underlying 108 = some (.array 24 5))
theorem inf108 : InfoOk Tryd.prog tt 108 := ⟨Tryd.t108, by kernel_rfl, by kernel_rfl, by kernel_rfl, by kernel_rfl⟩
theorem und109 : (tt.at 109).d.Is Tryd.prog 109 := ⟨_, _, _, rfl⟩
theorem inf109 : InfoOk Tryd.prog tt 109 := ⟨Tryd.t109, by kernel_rfl, by kernel_rfl, by kernel_rfl, by kernel_rfl⟩
theorem und110 : (tt.at 110).d.Is Tryd.prog 110 := ⟨_, _, _, rfl⟩
theorem inf110 : InfoOk Tryd.prog tt 110 := ⟨Tryd.t110, by kernel_rfl, by kernel_rfl, by kernel_rfl, by kernel_rfl⟩
theorem und112 : (tt.at 112).d.Is Tryd.prog 112 := ⟨_, _, _, rfl⟩
theorem inf112 : InfoOk Tryd.prog tt 112 := ⟨Tryd.t112, by kernel_rfl, by kernel_rfl, by kernel_rfl, by kernel_rfl⟩
theorem und113 : (tt.at 113).d.Is Tryd.prog 113 := ⟨_, _, _, rfl⟩
theorem inf113 : InfoOk Tryd.prog tt 113 := ⟨Tryd.t113, by kernel_rfl, by kernel_rfl, by kernel_rfl, by kernel_rfl⟩
theorem und114 : (tt.at 114).d.Is Tryd.prog 114 := (by kernel_rfl : Tryd.prog.underlying 114 = some (.int .i64))
theorem inf114 : InfoOk Tryd.prog tt 114 := ⟨Tryd.t114, by kernel_rfl, by kernel_rfl, by kernel_rfl, by kernel_rfl⟩
theorem und116 : (tt.at 116).d.Is Tryd.prog 116 := ⟨_, _, _, rfl⟩
theorem inf116 : InfoOk Tryd.prog tt 116 := ⟨Tryd.t116, by kernel_rfl, by kernel_rfl, by kernel_rfl, by kernel_rfl⟩
theorem und117 : (tt.at 117).d.Is Tryd.prog 117 := (by kernel_rfl : Tryd.prog.underlying 117 = some (.pointer 136))
theorem inf117 : InfoOk Tryd.prog tt 117 := ⟨Tryd.t117, by kernel_rfl, by kernel_rfl, by kernel_rfl, by kernel_rfl⟩
theorem und118 : (tt.at 118).d.Is Tryd.prog 118 := ⟨_, _, _, rfl⟩
theorem inf118 : InfoOk Tryd.prog tt 118 := ⟨Tryd.t118, by kernel_rfl, by kernel_rfl, by kernel_rfl, by kernel_rfl⟩
theorem und119 : (tt.at 119).d.Is Tryd.prog 119 := ⟨_, _, _, rfl⟩
theorem inf119 : InfoOk Tryd.prog tt 119 := ⟨Tryd.t119, by kernel_rfl, by kernel_rfl, by kernel_rfl, by kernel_rfl⟩
theorem und120 : (tt.at 120).d.Is Tryd.prog 120 := ⟨_, _, _, rfl⟩
theorem inf120 : InfoOk Tryd.prog tt 120 := ⟨Tryd.t120, by kernel_rfl, by kernel_rfl, by kernel_rfl, by kernel_rfl⟩
theorem und121 : (tt.at 121).d.Is Tryd.prog 121 := ⟨_, _, _, rfl⟩
theorem inf121 : InfoOk Tryd.prog tt 121 := ⟨Tryd.t121, by kernel_rfl, by kernel_rfl, by kernel_rfl, by kernel_rfl⟩
theorem und122 : (tt.at 122).d.Is Tryd.prog 122 := (by kernel_rfl : Tryd.prog.underlying 122 = some (.array 20 96))
theorem inf122 : InfoOk Tryd.prog tt 122 := ⟨Tryd.t122, by kernel_rfl, by kernel_rfl, by kernel_rfl, by kernel_rfl⟩
theorem und123 : (tt.at 123).d.Is Tryd.prog 123 := (by kernel_rfl : Tryd.prog.underlying 123 = some (.array 65 5))
theorem inf123 : InfoOk Tryd.prog tt 123 := ⟨Tryd.t123, by kernel_rfl, by kernel_rfl, by kernel_rfl, by kernel_rfl⟩
theorem und124 : (tt.at 124).d.Is Tryd.prog 124 := ⟨_, _, _, rfl⟩
theorem inf124 : InfoOk Tryd.prog tt 124 := ⟨Tryd.t124, by kernel_rfl, by kernel_rfl, by kernel_rfl, by kernel_rfl⟩
theorem und125 : (tt.at 125).d.Is Tryd.prog 125 := ⟨_, _, _, rfl⟩
theorem inf125 : InfoOk Tryd.prog tt 125 := ⟨Tryd.t125, by kernel_rfl, by kernel_rfl, by kernel_rfl, by kernel_rfl⟩
theorem und126 : (tt.at 126).d.Is Tryd.prog 126 := (by kernel_rfl : Tryd.prog.underlying 126 = some (.array 256 5))
theorem inf126 : InfoOk Tryd.prog tt 126 := ⟨Tryd.t126, by kernel_rfl, by kernel_rfl, by kernel_rfl, by kernel_rfl⟩
theorem und127 : (tt.at 127).d.Is Tryd.prog 127 := ⟨Tryd.prog.fieldsOf 127, by kernel_rfl, by kernel_rfl⟩
theorem inf127 : InfoOk Tryd.prog tt 127 := ⟨Tryd.t127, by kernel_rfl, by kernel_rfl, by kernel_rfl, by kernel_rfl⟩
theorem und128 : (tt.at 128).d.Is Tryd.prog 128 := ⟨Tryd.prog.fieldsOf 128, by kernel_rfl, by kernel_rfl⟩
theorem inf128 : InfoOk Tryd.prog tt 128 := ⟨Tryd.t128, by kernel_rfl, by kernel_rfl, by kernel_rfl, by kernel_rfl⟩
theorem und129 : (tt.at 129).d.Is Tryd.prog 129 := (by kernel_rfl : Tryd.prog.underlying 129 = some (.array 16 128))
theorem inf129 : InfoOk Tryd.prog tt 129 := ⟨Tryd.t129, by kernel_rfl, by kernel_rfl, by kernel_rfl, by kernel_rfl⟩
theorem und130 : (tt.at 130).d.Is Tryd.prog 130 := ⟨_, _, _, rfl⟩
theorem inf130 : InfoOk Tryd.prog tt 130 := ⟨Tryd.t130, by kernel_rfl, by kernel_rfl, by kernel_rfl, by kernel_rfl⟩
theorem und131 : (tt.at 131).d.Is Tryd.prog 131 := ⟨_, _, _, rfl⟩
theorem inf131 : InfoOk Tryd.prog tt 131 := ⟨Tryd.t131, by kernel_rfl, by kernel_rfl, by kernel_rfl, by kernel_rfl⟩
theorem und133 : (tt.at 133).d.Is Tryd.prog 133 := ⟨_, _, _, rfl⟩
theorem inf133 : InfoOk Tryd.prog tt 133 := ⟨Tryd.t133, by kernel_rfl, by kernel_rfl, by kernel_rfl, by kernel_rfl⟩
theorem und134 : (tt.at 134).d.Is Tryd.prog 134 := ⟨_, _, _, rfl⟩
theorem inf134 : InfoOk Tryd.prog tt 134 := ⟨Tryd.t134, by kernel_rfl, by kernel_rfl, by kernel_rfl, by kernel_rfl⟩
theorem und135 : (tt.at 135).d.Is Tryd.prog 135 := ⟨Tryd.prog.fieldsOf 135, by kernel_rfl, by kernel_rfl⟩
theorem inf135 : InfoOk Tryd.prog tt 135 := ⟨Tryd.t135, by kernel_rfl, by kernel_rfl, by kernel_rfl, by kernel_rfl⟩
theorem und136 : (tt.at 136).d.Is Tryd.prog 136 := ⟨Tryd.prog.fieldsOf 136, by kernel_rfl, by kernel_rfl⟩
theorem inf136 : InfoOk Tryd.prog tt 136 := ⟨Tryd.t136, by kernel_rfl, by kernel_rfl, by kernel_rfl, by kernel_rfl⟩
theorem und137 : (tt.at 137).d.Is Tryd.prog 137 := ⟨_, _, _, rfl⟩
theorem inf137 : InfoOk Tryd.prog tt 137 := ⟨Tryd.t137, by kernel_rfl, by kernel_rfl, by kernel_rfl, by kernel_rfl⟩
theorem und138 : (tt.at 138).d.Is Tryd.prog 138 := ⟨_, _, _, rfl⟩
theorem inf138 : InfoOk Tryd.prog tt 138 := ⟨Tryd.t138, by kernel_rfl, by kernel_rfl, by kernel_rfl, by kernel_rfl⟩
theorem und139 : (tt.at 139).d.Is Tryd.prog 139 := ⟨_, _, _, rfl⟩
theorem inf139 : InfoOk Tryd.prog tt 139 := ⟨Tryd.t139, by kernel_rfl, by kernel_rfl, by kernel_rfl, by kernel_rfl⟩
theorem und140 : (tt.at 140).d.Is Tryd.prog 140 := (by kernel_rfl : Tryd.prog.underlying 140 = some (.pointer 142))
theorem inf140 : InfoOk Tryd.prog tt 140 := ⟨Tryd.t140, by kernel_rfl, by kernel_rfl, by kernel_rfl, by kernel_rfl⟩
theorem und141 : (tt.at 141).d.Is Tryd.prog 141 := ⟨Tryd.prog.fieldsOf 141, by kernel_rfl, by kernel_rfl⟩
theorem inf141 : InfoOk Tryd.prog tt 141 := ⟨Tryd.t141, by kernel_rfl, by kernel_rfl, by kernel_rfl, by kernel_rfl⟩
theorem und142 : (tt.at 142).d.Is Tryd.prog 142 := ⟨Tryd.prog.fieldsOf 142, by kernel_rfl, by kernel_rfl⟩
theorem inf142 : InfoOk Tryd.prog tt 142 := ⟨Tryd.t142, by kernel_rfl, by kernel_rfl, by kernel_rfl, by kernel_rfl⟩
theorem und143 : (tt.at 143).d.Is Tryd.prog 143 := (by kernel_rfl : Tryd.prog.underlying 143 = some (.array 32 5))
theorem inf143 : InfoOk Tryd.prog tt 143 := ⟨Tryd.t143, by kernel_rfl, by kernel_rfl, by kernel_rfl, by kernel_rfl⟩
theorem und144 : (tt.at 144).d.Is Tryd.prog 144 := (by kernel_rfl : Tryd.prog.underlying 144 = some (.array 64 5))
theorem inf144 : InfoOk Tryd.prog tt 144 := ⟨Tryd.t144, by kernel_rfl, by kernel_rfl, by kernel_rfl, by kernel_rfl⟩
theorem und145 : (tt.at 145).d.Is Tryd.prog 145 := ⟨Tryd.prog.fieldsOf 145, by kernel_rfl, by kernel_rfl⟩
theorem inf145 : InfoOk Tryd.prog tt 145 := ⟨Tryd.t145, by kernel_rfl, by kernel_rfl, by kernel_rfl, by kernel_rfl⟩
theorem und146 : (tt.at 146).d.Is Tryd.prog 146 := ⟨Tryd.prog.fieldsOf 146, by kernel_rfl, by kernel_rfl⟩
theorem inf146 : InfoOk Tryd.prog tt 146 := ⟨Tryd.t146, by kernel_rfl, by kernel_rfl, by kernel_rfl, by kernel_rfl⟩
theorem und147 : (tt.at 147).d.Is Tryd.prog 147 := (by kernel_rfl : Tryd.prog.underlying 147 = some (.array 0 16))
theorem inf147 : InfoOk Tryd.prog tt 147 := ⟨Tryd.t147, by kernel_rfl, by kernel_rfl, by kernel_rfl, by kernel_rfl⟩
theorem und148 : (tt.at 148).d.Is Tryd.prog 148 := ⟨Tryd.prog.fieldsOf 148, by kernel_rfl, by kernel_rfl⟩
theorem inf148 : InfoOk Tryd.prog tt 148 := ⟨Tryd.t148, by kernel_rfl, by kernel_rfl, by kernel_rfl, by kernel_rfl⟩
theorem und149 : (tt.at 149).d.Is Tryd.prog 149 := ⟨Tryd.prog.fieldsOf 149, by kernel_rfl, by kernel_rfl⟩
theorem inf149 : InfoOk Tryd.prog tt 149 := ⟨Tryd.t149, by kernel_rfl, by kernel_rfl, by kernel_rfl, by kernel_rfl⟩
theorem und150 : (tt.at 150).d.Is Tryd.prog 150 := (by kernel_rfl : Tryd.prog.underlying 150 = some (.int .u8))
theorem inf150 : InfoOk Tryd.prog tt 150 := ⟨Tryd.t150, by kernel_rfl, by kernel_rfl, by kernel_rfl, by kernel_rfl⟩
theorem und151 : (tt.at 151).d.Is Tryd.prog 151 := (by kernel_rfl : Tryd.prog.underlying 151 = some (.int .u8))
theorem inf151 : InfoOk Tryd.prog tt 151 := ⟨Tryd.t151, by kernel_rfl, by kernel_rfl, by kernel_rfl, by kernel_rfl⟩
theorem und152 : (tt.at 152).d.Is Tryd.prog 152 := ⟨_, _, _, rfl⟩
theorem inf152 : InfoOk Tryd.prog tt 152 := ⟨Tryd.t152, by kernel_rfl, by kernel_rfl, by kernel_rfl, by kernel_rfl⟩
theorem und153 : (tt.at 153).d.Is Tryd.prog 153 := (by kernel_rfl : Tryd.prog.underlying 153 = some (.int .i32))
theorem inf153 : InfoOk Tryd.prog tt 153 := ⟨Tryd.t153, by kernel_rfl, by kernel_rfl, by kernel_rfl, by kernel_rfl⟩
theorem und154 : (tt.at 154).d.Is Tryd.prog 154 := (by kernel_rfl : Tryd.prog.underlying 154 = some (.int .i32))
theorem inf154 : InfoOk Tryd.prog tt 154 := ⟨Tryd.t154, by kernel_rfl, by kernel_rfl, by kernel_rfl, by kernel_rfl⟩
theorem und155 : (tt.at 155).d.Is Tryd.prog 155 := ⟨Tryd.prog.fieldsOf 155, by kernel_rfl, by kernel_rfl⟩
theorem inf155 : InfoOk Tryd.prog tt 155 := ⟨Tryd.t155, by kernel_rfl, by kernel_rfl, by kernel_rfl, by kernel_rfl⟩
theorem und156 : (tt.at 156).d.Is Tryd.prog 156 := ⟨Tryd.prog.fieldsOf 156, by kernel_rfl, by kernel_rfl⟩
theorem inf156 : InfoOk Tryd.prog tt 156 := ⟨Tryd.t156, by kernel_rfl, by kernel_rfl, by kernel_rfl, by kernel_rfl⟩
theorem TTund : ∀ t, (tt.at t).d.Is Tryd.prog t := fun t => match t with
  | 0 => trivial
  | 1 => und1
  | 2 => und2
  | 3 => und3
  | 4 => und4
  | 5 => und5
  | 6 => und6
  | 7 => und7
  | 8 => und8
  | 9 => und9
  | 10 => und10
  | 11 => und11
  | 12 => und12
  | 13 => und13
  | 14 => und14
  | 15 => und15
  | 16 => und16
  | 17 => und17
  | 18 => und18
  | 19 => und19
  | 20 => und20
  | 21 => und21
  | 22 => und22
  | 23 => und23
  | 24 => und24
  | 25 => trivial
  | 26 => und26
  | 27 => und27
  | 28 => und28
  | 29 => und29
  | 30 => und30
  | 31 => und31
  | 32 => und32
  | 33 => und33
  | 34 => und34
  | 35 => und35
  | 36 => und36
  | 37 => trivial
  | 38 => und38
  | 39 => und39
  | 40 => und40
  | 41 => und41
  | 42 => und42
  | 43 => und43
  | 44 => und44
  | 45 => und45
  | 46 => und46
  | 47 => und47
  | 48 => und48
  | 49 => und49
  | 50 => trivial
  | 51 => und51
  | 52 => und52
  | 53 => und53
  | 54 => trivial
  | 55 => und55
  | 56 => trivial
  | 57 => und57
  | 58 => und58
  | 59 => und59
  | 60 => und60
  | 61 => und61
  | 62 => trivial
  | 63 => und63
  | 64 => und64
  | 65 => und65
  | 66 => und66
  | 67 => und67
  | 68 => und68
  | 69 => und69
  | 70 => und70
  | 71 => trivial
  | 72 => und72
  | 73 => und73
  | 74 => und74
  | 75 => und75
  | 76 => und76
  | 77 => und77
  | 78 => und78
  | 79 => trivial
  | 80 => und80
  | 81 => und81
  | 82 => und82
  | 83 => und83
  | 84 => und84
  | 85 => und85
  | 86 => und86
  | 87 => trivial
  | 88 => und88
  | 89 => und89
  | 90 => trivial
  | 91 => und91
  | 92 => und92
  | 93 => und93
  | 94 => trivial
  | 95 => und95
  | 96 => und96
  | 97 => trivial
  | 98 => und98
  | 99 => und99
  | 100 => trivial
  | 101 => und101
  | 102 => und102
  | 103 => und103
  | 104 => trivial
  | 105 => und105
  | 106 => und106
  | 107 => und107
  | 108 => und108
  | 109 => und109
  | 110 => und110
  | 111 => trivial
  | 112 => und112
  | 113 => und113
  | 114 => und114
  | 115 => trivial
  | 116 => und116
  | 117 => und117
  | 118 => und118
  | 119 => und119
  | 120 => und120
  | 121 => und121
  | 122 => und122
  | 123 => und123
  | 124 => und124
  | 125 => und125
  | 126 => und126
  | 127 => und127
  | 128 => und128
  | 129 => und129
  | 130 => und130
  | 131 => und131
  | 132 => trivial
  | 133 => und133
  | 134 => und134
  | 135 => und135
  | 136 => und136
  | 137 => und137
  | 138 => und138
  | 139 => und139
  | 140 => und140
  | 141 => und141
  | 142 => und142
  | 143 => und143
  | 144 => und144
  | 145 => und145
  | 146 => und146
  | 147 => und147
  | 148 => und148
  | 149 => und149
  | 150 => und150
  | 151 => und151
  | 152 => und152
  | 153 => und153
  | 154 => und154
  | 155 => und155
  | 156 => und156
  | k + 157 => und_past ttLen (Nat.le_add_left _ _)
theorem TTinf : ∀ t, tt.ok t = true → InfoOk Tryd.prog tt t := fun t => match t with
  | 0 => fun h => nomatch h
  | 1 => fun h => inf1
  | 2 => fun h => inf2
  | 3 => fun h => inf3
  | 4 => fun h => inf4
  | 5 => fun h => inf5
  | 6 => fun h => inf6
  | 7 => fun h => inf7
  | 8 => fun h => inf8
  | 9 => fun h => inf9
  | 10 => fun h => inf10
  | 11 => fun h => inf11
  | 12 => fun h => inf12
  | 13 => fun h => inf13
  | 14 => fun h => inf14
  | 15 => fun h => inf15
  | 16 => fun h => inf16
  | 17 => fun h => inf17
  | 18 => fun h => inf18
  | 19 => fun h => inf19
  | 20 => fun h => inf20
  | 21 => fun h => inf21
  | 22 => fun h => inf22
  | 23 => fun h => inf23
  | 24 => fun h => inf24
  | 25 => fun h => nomatch h
  | 26 => fun h => inf26
  | 27 => fun h => inf27
  | 28 => fun h => inf28
  | 29 => fun h => inf29
  | 30 => fun h => inf30
  | 31 => fun h => inf31
  | 32 => fun h => inf32
  | 33 => fun h => inf33
  | 34 => fun h => inf34
  | 35 => fun h => inf35
  | 36 => fun h => inf36
  | 37 => fun h => nomatch h
  | 38 => fun h => inf38
  | 39 => fun h => inf39
  | 40 => fun h => inf40
  | 41 => fun h => inf41
  | 42 => fun h => inf42
  | 43 => fun h => inf43
  | 44 => fun h => inf44
  | 45 => fun h => inf45
  | 46 => fun h => inf46
  | 47 => fun h => inf47
  | 48 => fun h => inf48
  | 49 => fun h => inf49
  | 50 => fun h => nomatch h
  | 51 => fun h => inf51
  | 52 => fun h => inf52
  | 53 => fun h => inf53
  | 54 => fun h => nomatch h
  | 55 => fun h => inf55
  | 56 => fun h => nomatch h
  | 57 => fun h => inf57
  | 58 => fun h => inf58
  | 59 => fun h => inf59
  | 60 => fun h => inf60
  | 61 => fun h => inf61
  | 62 => fun h => nomatch h
  | 63 => fun h => inf63
  | 64 => fun h => inf64
  | 65 => fun h => inf65
  | 66 => fun h => inf66
  | 67 => fun h => inf67
  | 68 => fun h => inf68
  | 69 => fun h => inf69
  | 70 => fun h => inf70
  | 71 => fun h => nomatch h
  | 72 => fun h => inf72
  | 73 => fun h => inf73
  | 74 => fun h => inf74
  | 75 => fun h => inf75
  | 76 => fun h => inf76
  | 77 => fun h => inf77
  | 78 => fun h => inf78
  | 79 => fun h => nomatch h
  | 80 => fun h => inf80
  | 81 => fun h => inf81
  | 82 => fun h => inf82
  | 83 => fun h => inf83
  | 84 => fun h => inf84
  | 85 => fun h => inf85
  | 86 => fun h => inf86
  | 87 => fun h => nomatch h
  | 88 => fun h => inf88
  | 89 => fun h => inf89
  | 90 => fun h => nomatch h
  | 91 => fun h => inf91
  | 92 => fun h => inf92
  | 93 => fun h => inf93
  | 94 => fun h => nomatch h
  | 95 => fun h => inf95
  | 96 => fun h => inf96
  | 97 => fun h => nomatch h
  | 98 => fun h => inf98
  | 99 => fun h => inf99
  | 100 => fun h => nomatch h
  | 101 => fun h => inf101
  | 102 => fun h => inf102
  | 103 => fun h => inf103
  | 104 => fun h => nomatch h
  | 105 => fun h => inf105
  | 106 => fun h => inf106
  | 107 => fun h => inf107
  | 108 => fun h => inf108
  | 109 => fun h => inf109
  | 110 => fun h => inf110
  | 111 => fun h => nomatch h
  | 112 => fun h => inf112
  | 113 => fun h => inf113
  | 114 => fun h => inf114
  | 115 => fun h => nomatch h
  | 116 => fun h => inf116
  | 117 => fun h => inf117
  | 118 => fun h => inf118
  | 119 => fun h => inf119
  | 120 => fun h => inf120
  | 121 => fun h => inf121
  | 122 => fun h => inf122
  | 123 => fun h => inf123
  | 124 => fun h => inf124
  | 125 => fun h => inf125
  | 126 => fun h => inf126
  | 127 => fun h => inf127
  | 128 => fun h => inf128
  | 129 => fun h => inf129
  | 130 => fun h => inf130
  | 131 => fun h => inf131
  | 132 => fun h => nomatch h
  | 133 => fun h => inf133
  | 134 => fun h => inf134
  | 135 => fun h => inf135
  | 136 => fun h => inf136
  | 137 => fun h => inf137
  | 138 => fun h => inf138
  | 139 => fun h => inf139
  | 140 => fun h => inf140
  | 141 => fun h => inf141
  | 142 => fun h => inf142
  | 143 => fun h => inf143
  | 144 => fun h => inf144
  | 145 => fun h => inf145
  | 146 => fun h => inf146
  | 147 => fun h => inf147
  | 148 => fun h => inf148
  | 149 => fun h => inf149
  | 150 => fun h => inf150
  | 151 => fun h => inf151
  | 152 => fun h => inf152
  | 153 => fun h => inf153
  | 154 => fun h => inf154
  | 155 => fun h => inf155
  | 156 => fun h => inf156
  | k + 157 => fun h => (ok_past ttLen (Nat.le_add_left _ _) h).elim
theorem eqf30 : EqFlat Tryd.prog tt 30 := .of (by kernel_rfl) (by kernel_rfl) (by kernel_rfl) (by kernel_rfl)
theorem eqf34 : EqFlat Tryd.prog tt 34 := .of (by kernel_rfl) (by kernel_rfl) (by kernel_rfl) (by kernel_rfl)
theorem TTeq : ∀ t, (tt.at t).eq = true → EqFlat Tryd.prog tt t := fun t => match t with
  | 0 => fun h => nomatch h
  | 1 => fun h => nomatch h
  | 2 => fun h => nomatch h
  | 3 => fun h => nomatch h
  | 4 => fun h => nomatch h
  | 5 => fun h => nomatch h
  | 6 => fun h => nomatch h
  | 7 => fun h => nomatch h
  | 8 => fun h => nomatch h
  | 9 => fun h => nomatch h
  | 10 => fun h => nomatch h
  | 11 => fun h => nomatch h
  | 12 => fun h => nomatch h
  | 13 => fun h => nomatch h
  | 14 => fun h => nomatch h
  | 15 => fun h => nomatch h
  | 16 => fun h => nomatch h
  | 17 => fun h => nomatch h
  | 18 => fun h => nomatch h
  | 19 => fun h => nomatch h
  | 20 => fun h => nomatch h
  | 21 => fun h => nomatch h
  | 22 => fun h => nomatch h
  | 23 => fun h => nomatch h
  | 24 => fun h => nomatch h
  | 25 => fun h => nomatch h
  | 26 => fun h => nomatch h
  | 27 => fun h => nomatch h
  | 28 => fun h => nomatch h
  | 29 => fun h => nomatch h
  | 30 => fun h => eqf30
  | 31 => fun h => nomatch h
  | 32 => fun h => nomatch h
  | 33 => fun h => nomatch h
  | 34 => fun h => eqf34
  | 35 => fun h => nomatch h
  | 36 => fun h => nomatch h
  | 37 => fun h => nomatch h
  | 38 => fun h => nomatch h
  | 39 => fun h => nomatch h
  | 40 => fun h => nomatch h
  | 41 => fun h => nomatch h
  | 42 => fun h => nomatch h
  | 43 => fun h => nomatch h
  | 44 => fun h => nomatch h
  | 45 => fun h => nomatch h
  | 46 => fun h => nomatch h
  | 47 => fun h => nomatch h
  | 48 => fun h => nomatch h
  | 49 => fun h => nomatch h
  | 50 => fun h => nomatch h
  | 51 => fun h => nomatch h
  | 52 => fun h => nomatch h
  | 53 => fun h => nomatch h
  | 54 => fun h => nomatch h
  | 55 => fun h => nomatch h
  | 56 => fun h => nomatch h
  | 57 => fun h => nomatch h
  | 58 => fun h => nomatch h
  | 59 => fun h => nomatch h
  | 60 => fun h => nomatch h
  | 61 => fun h => nomatch h
  | 62 => fun h => nomatch h
  | 63 => fun h => nomatch h
  | 64 => fun h => nomatch h
  | 65 => fun h => nomatch h
  | 66 => fun h => nomatch h
  | 67 => fun h => nomatch h
  | 68 => fun h => nomatch h
  | 69 => fun h => nomatch h
  | 70 => fun h => nomatch h
  | 71 => fun h => nomatch h
  | 72 => fun h => nomatch h
  | 73 => fun h => nomatch h
  | 74 => fun h => nomatch h
  | 75 => fun h => nomatch h
  | 76 => fun h => nomatch h
  | 77 => fun h => nomatch h
  | 78 => fun h => nomatch h
  | 79 => fun h => nomatch h
  | 80 => fun h => nomatch h
  | 81 => fun h => nomatch h
  | 82 => fun h => nomatch h
  | 83 => fun h => nomatch h
  | 84 => fun h => nomatch h
  | 85 => fun h => nomatch h
  | 86 => fun h => nomatch h
  | 87 => fun h => nomatch h
  | 88 => fun h => nomatch h
  | 89 => fun h => nomatch h
  | 90 => fun h => nomatch h
  | 91 => fun h => nomatch h
  | 92 => fun h => nomatch h
  | 93 => fun h => nomatch h
  | 94 => fun h => nomatch h
  | 95 => fun h => nomatch h
  | 96 => fun h => nomatch h
  | 97 => fun h => nomatch h
  | 98 => fun h => nomatch h
  | 99 => fun h => nomatch h
  | 100 => fun h => nomatch h
  | 101 => fun h => nomatch h
  | 102 => fun h => nomatch h
  | 103 => fun h => nomatch h
  | 104 => fun h => nomatch h
  | 105 => fun h => nomatch h
  | 106 => fun h => nomatch h
  | 107 => fun h => nomatch h
  | 108 => fun h => nomatch h
  | 109 => fun h => nomatch h
  | 110 => fun h => nomatch h
  | 111 => fun h => nomatch h
  | 112 => fun h => nomatch h
  | 113 => fun h => nomatch h
  | 114 => fun h => nomatch h
  | 115 => fun h => nomatch h
  | 116 => fun h => nomatch h
  | 117 => fun h => nomatch h
  | 118 => fun h => nomatch h
  | 119 => fun h => nomatch h
  | 120 => fun h => nomatch h
  | 121 => fun h => nomatch h
  | 122 => fun h => nomatch h
  | 123 => fun h => nomatch h
  | 124 => fun h => nomatch h
  | 125 => fun h => nomatch h
  | 126 => fun h => nomatch h
  | 127 => fun h => nomatch h
  | 128 => fun h => nomatch h
  | 129 => fun h => nomatch h
  | 130 => fun h => nomatch h
  | 131 => fun h => nomatch h
  | 132 => fun h => nomatch h
  | 133 => fun h => nomatch h
  | 134 => fun h => nomatch h
  | 135 => fun h => nomatch h
  | 136 => fun h => nomatch h
  | 137 => fun h => nomatch h
  | 138 => fun h => nomatch h
  | 139 => fun h => nomatch h
  | 140 => fun h => nomatch h
  | 141 => fun h => nomatch h
  | 142 => fun h => nomatch h
  | 143 => fun h => nomatch h
  | 144 => fun h => nomatch h
  | 145 => fun h => nomatch h
  | 146 => fun h => nomatch h
  | 147 => fun h => nomatch h
  | 148 => fun h => nomatch h
  | 149 => fun h => nomatch h
  | 150 => fun h => nomatch h
  | 151 => fun h => nomatch h
  | 152 => fun h => nomatch h
  | 153 => fun h => nomatch h
  | 154 => fun h => nomatch h
  | 155 => fun h => nomatch h
  | 156 => fun h => nomatch h
  | k + 157 => fun h => (eq_past ttLen (Nat.le_add_left _ _) h).elim
theorem TTeqs : ∀ t, ∀ (w : World) (h : Heap) (c : Cfg) (cs ds : List V) (xs ys : Array Value) (b : Bool), eqOk (tt.at t) cs ds = true → RepL w h c cs xs.toList → RepL w h c ds ys.toList →
    eqCells cs ds = some b → Tryd.prog.eqGuardType Tryd.prog.depth t = false ∧ (Op.equalIn 10000 t (.agg xs) (.agg ys)).run Tryd.prog w = .ok b w :=
  fun t _ _ _ _ _ _ _ _ hk rx ry hb => eqs_flat (TTeq t (eqOk_eq hk)) hk rx ry hb
theorem TT : TOK Tryd.prog tt := ⟨TTund, fun t h => (TTinf t h).spec, TTeqs, u8s_of (by kernel_rfl), blds_of (by kernel_rfl), fun t h => (TTinf t h).one⟩
theorem mixed : Tryd.prog.follows .mixedOrders = true := by kernel_rfl
end Go.Proofs.YtmlkkgfenfdndaaDoor

set_option maxRecDepth 100000
namespace Go.Proofs
open Go.Shelf
def Tryd.lay197_ren : Go.Shelf.Ren := ⟨fun | 197 => 61 | 260 => 79 | n => n, fun | 9 => 9 | 21 => 21 | 3 => 3 | 4 => 4 | 5 => 5 | 105 => 100 | 119 => 126 | 0 => 0 | 46 => 61 | 139 => 129 | 138 => 128 | n => n, fun | 3 => 2 | 4 => 3 | n => n⟩
theorem Tryd.lay197 : Go.Proofs.Lays.n197 Tryd.prog Tryd.lay197_ren := {
  mixed := by kernel_rfl
  f197 := Tryd.func61.trans (congrArg some (by kernel_rfl))
  f260 := Tryd.func79.trans (congrArg some (by kernel_rfl))
  t0 := Tryd.underlying0
  a0 := Tryd.isAgg0
  z0 := Tryd.sizeOf0
  v0 := Tryd.zeroValue0
  t3 := Tryd.underlying3
  a3 := Tryd.isAgg3
  z3 := Tryd.sizeOf3
  v3 := Tryd.zeroValue3
  t4 := Tryd.underlying4
  a4 := Tryd.isAgg4
  z4 := Tryd.sizeOf4
  v4 := Tryd.zeroValue4
  t5 := Tryd.underlying5
  a5 := Tryd.isAgg5
  z5 := Tryd.sizeOf5
  v5 := Tryd.zeroValue5
  t9 := Tryd.underlying9
  a9 := Tryd.isAgg9
  z9 := Tryd.sizeOf9
  v9 := Tryd.zeroValue9
  t21 := Tryd.underlying21
  a21 := Tryd.isAgg21
  z21 := Tryd.sizeOf21
  v21 := Tryd.zeroValue21
  t46 := Tryd.underlying61
  a46 := Tryd.isAgg61
  z46 := Tryd.sizeOf61
  v46 := Tryd.zeroValue61
  t105 := Tryd.underlying100
  a105 := Tryd.isAgg100
  z105 := Tryd.sizeOf100
  v105 := Tryd.zeroValue100
  t119 := Tryd.underlying126
  a119 := Tryd.isAgg126
  z119 := Tryd.sizeOf126
  t138 := Tryd.underlying128
  a138 := Tryd.isAgg128
  z138 := Tryd.sizeOf128
  v138 := Tryd.zeroValue128
  t139 := Tryd.underlying129
  a139 := Tryd.isAgg129
  z139 := Tryd.sizeOf129
  v139 := Tryd.zeroValue129
  g3 := by kernel_rfl
  g4 := by kernel_rfl }

def Tryd.lay171_ren : Go.Shelf.Ren := ⟨fun | 171 => 17 | 243 => 30 | 246 => 55 | 283 => 74 | 284 => 75 | 285 => 76 | 286 => 77 | 129 => 91 | 317 => 90 | 318 => 92 | 319 => 93 | 320 => 94 | 337 => 104 | 338 => 105 | n => n, fun | 3 => 3 | 9 => 9 | 2 => 2 | 4 => 4 | 171 => 108 | 0 => 0 | 53 => 96 | 37 => 43 | 5 => 5 | 173 => 111 | 212 => 122 | 51 => 93 | 20 => 20 | 213 => 123 | 46 => 61 | 232 => 143 | 233 => 144 | n => n, fun | 17 => 1 | 18 => 6 | 19 => 7 | n => n⟩
theorem Tryd.lay171 : Go.Proofs.LaysM.n171 Tryd.prog Tryd.lay171_ren := {
  mixed := by kernel_rfl
  f129 := Tryd.func91.trans (congrArg some (by kernel_rfl))
  f171 := Tryd.func17.trans (congrArg some (by kernel_rfl))
  f243 := Tryd.func30.trans (congrArg some (by kernel_rfl))
  f246 := Tryd.func55.trans (congrArg some (by kernel_rfl))
  f283 := Tryd.func74.trans (congrArg some (by kernel_rfl))
  f284 := Tryd.func75.trans (congrArg some (by kernel_rfl))
  f285 := Tryd.func76.trans (congrArg some (by kernel_rfl))
  f286 := Tryd.func77.trans (congrArg some (by kernel_rfl))
  f317 := Tryd.func90.trans (congrArg some (by kernel_rfl))
  f318 := Tryd.func92.trans (congrArg some (by kernel_rfl))
  f319 := Tryd.func93.trans (congrArg some (by kernel_rfl))
  f320 := Tryd.func94.trans (congrArg some (by kernel_rfl))
  f337 := Tryd.func104.trans (congrArg some (by kernel_rfl))
  f338 := Tryd.func105.trans (congrArg some (by kernel_rfl))
  t0 := Tryd.underlying0
  a0 := Tryd.isAgg0
  z0 := Tryd.sizeOf0
  v0 := Tryd.zeroValue0
  t2 := Tryd.underlying2
  a2 := Tryd.isAgg2
  z2 := Tryd.sizeOf2
  v2 := Tryd.zeroValue2
  t3 := Tryd.underlying3
  a3 := Tryd.isAgg3
  z3 := Tryd.sizeOf3
  v3 := Tryd.zeroValue3
  t4 := Tryd.underlying4
  a4 := Tryd.isAgg4
  z4 := Tryd.sizeOf4
  v4 := Tryd.zeroValue4
  t5 := Tryd.underlying5
  a5 := Tryd.isAgg5
  z5 := Tryd.sizeOf5
  v5 := Tryd.zeroValue5
  t9 := Tryd.underlying9
  a9 := Tryd.isAgg9
  z9 := Tryd.sizeOf9
  v9 := Tryd.zeroValue9
  t20 := Tryd.underlying20
  a20 := Tryd.isAgg20
  z20 := Tryd.sizeOf20
  v20 := Tryd.zeroValue20
  t37 := Tryd.underlying43
  a37 := Tryd.isAgg43
  z37 := Tryd.sizeOf43
  v37 := Tryd.zeroValue43
  t46 := Tryd.underlying61
  a46 := Tryd.isAgg61
  z46 := Tryd.sizeOf61
  v46 := Tryd.zeroValue61
  t51 := Tryd.underlying93
  a51 := Tryd.isAgg93
  z51 := Tryd.sizeOf93
  v51 := Tryd.zeroValue93
  t53 := Tryd.underlying96
  a53 := Tryd.isAgg96
  z53 := Tryd.sizeOf96
  v53 := Tryd.zeroValue96
  t171 := Tryd.underlying108
  a171 := Tryd.isAgg108
  z171 := Tryd.sizeOf108
  v171 := Tryd.zeroValue108
  t173 := Tryd.underlying111
  a173 := Tryd.isAgg111
  z173 := Tryd.sizeOf111
  v173 := Tryd.zeroValue111
  t212 := Tryd.underlying122
  a212 := Tryd.isAgg122
  z212 := Tryd.sizeOf122
  v212 := Tryd.zeroValue122
  t213 := Tryd.underlying123
  a213 := Tryd.isAgg123
  z213 := Tryd.sizeOf123
  t232 := Tryd.underlying143
  a232 := Tryd.isAgg143
  z232 := Tryd.sizeOf143
  v232 := Tryd.zeroValue143
  t233 := Tryd.underlying144
  a233 := Tryd.isAgg144
  z233 := Tryd.sizeOf144
  v233 := Tryd.zeroValue144
  g17 := by kernel_rfl
  g18 := by kernel_rfl
  g19 := by kernel_rfl
  i0 := by kernel_rfl
  i2 := by kernel_rfl
  i3 := by kernel_rfl
  i4 := by kernel_rfl
  i5 := by kernel_rfl
  i9 := by kernel_rfl
  i20 := by kernel_rfl
  i37 := by kernel_rfl
  i46 := by kernel_rfl
  i51 := by kernel_rfl
  i53 := by kernel_rfl
  i171 := by kernel_rfl
  i173 := by kernel_rfl
  i212 := by kernel_rfl
  i232 := by kernel_rfl
  i233 := by kernel_rfl
  m17 := by kernel_rfl
  m18 := by kernel_rfl
  m19 := by kernel_rfl }

def Tryd.lay105_ren : Go.Shelf.Ren := ⟨fun | 105 => 19 | 212 => 31 | 99 => 32 | 165 => 33 | 166 => 18 | 170 => 34 | 169 => 20 | 263 => 56 | 264 => 57 | 206 => 58 | 240 => 29 | 241 => 59 | 276 => 54 | 277 => 78 | n => n, fun | 9 => 9 | 3 => 3 | 4 => 4 | 20 => 20 | 0 => 0 | 46 => 61 | 109 => 62 | 5 => 5 | 72 => 45 | 76 => 50 | 51 => 93 | 146 => 94 | 53 => 96 | 148 => 97 | 70 => 42 | 37 => 43 | 75 => 47 | 127 => 67 | 164 => 90 | 80 => 53 | n => n, fun | n => n⟩
theorem Tryd.lay105 : Go.Proofs.Lays.n105 Tryd.prog Tryd.lay105_ren := {
  mixed := by kernel_rfl
  f99 := Tryd.func32.trans (congrArg some (by kernel_rfl))
  f105 := Tryd.func19.trans (congrArg some (by kernel_rfl))
  f165 := Tryd.func33.trans (congrArg some (by kernel_rfl))
  f166 := Tryd.func18.trans (congrArg some (by kernel_rfl))
  f169 := Tryd.func20.trans (congrArg some (by kernel_rfl))
  f170 := Tryd.func34.trans (congrArg some (by kernel_rfl))
  f206 := Tryd.func58.trans (congrArg some (by kernel_rfl))
  f212 := Tryd.func31.trans (congrArg some (by kernel_rfl))
  f240 := Tryd.func29.trans (congrArg some (by kernel_rfl))
  f241 := Tryd.func59.trans (congrArg some (by kernel_rfl))
  f263 := Tryd.func56.trans (congrArg some (by kernel_rfl))
  f264 := Tryd.func57.trans (congrArg some (by kernel_rfl))
  f276 := Tryd.func54.trans (congrArg some (by kernel_rfl))
  f277 := Tryd.func78.trans (congrArg some (by kernel_rfl))
  t0 := Tryd.underlying0
  a0 := Tryd.isAgg0
  z0 := Tryd.sizeOf0
  v0 := Tryd.zeroValue0
  t3 := Tryd.underlying3
  a3 := Tryd.isAgg3
  z3 := Tryd.sizeOf3
  v3 := Tryd.zeroValue3
  t4 := Tryd.underlying4
  a4 := Tryd.isAgg4
  z4 := Tryd.sizeOf4
  v4 := Tryd.zeroValue4
  t5 := Tryd.underlying5
  a5 := Tryd.isAgg5
  z5 := Tryd.sizeOf5
  v5 := Tryd.zeroValue5
  t9 := Tryd.underlying9
  a9 := Tryd.isAgg9
  z9 := Tryd.sizeOf9
  v9 := Tryd.zeroValue9
  t20 := Tryd.underlying20
  a20 := Tryd.isAgg20
  z20 := Tryd.sizeOf20
  v20 := Tryd.zeroValue20
  t37 := Tryd.underlying43
  a37 := Tryd.isAgg43
  z37 := Tryd.sizeOf43
  v37 := Tryd.zeroValue43
  t46 := Tryd.underlying61
  a46 := Tryd.isAgg61
  z46 := Tryd.sizeOf61
  v46 := Tryd.zeroValue61
  t51 := Tryd.underlying93
  a51 := Tryd.isAgg93
  z51 := Tryd.sizeOf93
  v51 := Tryd.zeroValue93
  t53 := Tryd.underlying96
  a53 := Tryd.isAgg96
  z53 := Tryd.sizeOf96
  v53 := Tryd.zeroValue96
  t70 := Tryd.underlying42
  a70 := Tryd.isAgg42
  z70 := Tryd.sizeOf42
  v70 := Tryd.zeroValue42
  t72 := Tryd.underlying45
  a72 := Tryd.isAgg45
  z72 := Tryd.sizeOf45
  v72 := Tryd.zeroValue45
  t75 := Tryd.underlying47
  a75 := Tryd.isAgg47
  z75 := Tryd.sizeOf47
  v75 := Tryd.zeroValue47
  t76 := Tryd.underlying50
  a76 := Tryd.isAgg50
  z76 := Tryd.sizeOf50
  v76 := Tryd.zeroValue50
  t109 := Tryd.underlying62
  a109 := Tryd.isAgg62
  z109 := Tryd.sizeOf62
  v109 := Tryd.zeroValue62
  t127 := Tryd.underlying67
  a127 := Tryd.isAgg67
  z127 := Tryd.sizeOf67
  v127 := Tryd.zeroValue67
  t146 := Tryd.underlying94
  a146 := Tryd.isAgg94
  z146 := Tryd.sizeOf94
  v146 := Tryd.zeroValue94
  t148 := Tryd.underlying97
  a148 := Tryd.isAgg97
  z148 := Tryd.sizeOf97
  v148 := Tryd.zeroValue97
  t164 := Tryd.underlying90
  a164 := Tryd.isAgg90
  z164 := Tryd.sizeOf90
  v164 := Tryd.zeroValue90 }

def Tryd.lay161_ren : Go.Shelf.Ren := ⟨fun | 161 => 21 | 231 => 35 | 227 => 36 | 233 => 37 | 235 => 38 | 228 => 60 | 197 => 61 | 151 => 62 | 260 => 79 | 152 => 80 | 137 => 24 | 119 => 95 | 224 => 96 | 225 => 97 | 217 => 49 | 266 => 71 | n => n, fun | 9 => 9 | 4 => 4 | 3 => 3 | 5 => 5 | 117 => 71 | 116 => 70 | 0 => 0 | 124 => 74 | 105 => 100 | 21 => 21 | 119 => 126 | 46 => 61 | 139 => 129 | 138 => 128 | n => n, fun | 3 => 2 | 4 => 3 | n => n⟩
theorem Tryd.lay161 : Go.Proofs.Lays.n161 Tryd.prog Tryd.lay161_ren := {
  mixed := by kernel_rfl
  f119 := Tryd.func95.trans (congrArg some (by kernel_rfl))
  f137 := Tryd.func24.trans (congrArg some (by kernel_rfl))
  f151 := Tryd.func62.trans (congrArg some (by kernel_rfl))
  f152 := Tryd.func80.trans (congrArg some (by kernel_rfl))
  f161 := Tryd.func21.trans (congrArg some (by kernel_rfl))
  f197 := Tryd.func61.trans (congrArg some (by kernel_rfl))
  f217 := Tryd.func49.trans (congrArg some (by kernel_rfl))
  f224 := Tryd.func96.trans (congrArg some (by kernel_rfl))
  f225 := Tryd.func97.trans (congrArg some (by kernel_rfl))
  f227 := Tryd.func36.trans (congrArg some (by kernel_rfl))
  f228 := Tryd.func60.trans (congrArg some (by kernel_rfl))
  f231 := Tryd.func35.trans (congrArg some (by kernel_rfl))
  f233 := Tryd.func37.trans (congrArg some (by kernel_rfl))
  f235 := Tryd.func38.trans (congrArg some (by kernel_rfl))
  f260 := Tryd.func79.trans (congrArg some (by kernel_rfl))
  f266 := Tryd.func71.trans (congrArg some (by kernel_rfl))
  t0 := Tryd.underlying0
  a0 := Tryd.isAgg0
  z0 := Tryd.sizeOf0
  v0 := Tryd.zeroValue0
  t3 := Tryd.underlying3
  a3 := Tryd.isAgg3
  z3 := Tryd.sizeOf3
  v3 := Tryd.zeroValue3
  t4 := Tryd.underlying4
  a4 := Tryd.isAgg4
  z4 := Tryd.sizeOf4
  v4 := Tryd.zeroValue4
  t5 := Tryd.underlying5
  a5 := Tryd.isAgg5
  z5 := Tryd.sizeOf5
  v5 := Tryd.zeroValue5
  t9 := Tryd.underlying9
  a9 := Tryd.isAgg9
  z9 := Tryd.sizeOf9
  v9 := Tryd.zeroValue9
  t21 := Tryd.underlying21
  a21 := Tryd.isAgg21
  z21 := Tryd.sizeOf21
  v21 := Tryd.zeroValue21
  t46 := Tryd.underlying61
  a46 := Tryd.isAgg61
  z46 := Tryd.sizeOf61
  v46 := Tryd.zeroValue61
  t105 := Tryd.underlying100
  a105 := Tryd.isAgg100
  z105 := Tryd.sizeOf100
  v105 := Tryd.zeroValue100
  t116 := Tryd.underlying70
  a116 := Tryd.isAgg70
  z116 := Tryd.sizeOf70
  t117 := Tryd.underlying71
  a117 := Tryd.isAgg71
  z117 := Tryd.sizeOf71
  v117 := Tryd.zeroValue71
  t119 := Tryd.underlying126
  a119 := Tryd.isAgg126
  z119 := Tryd.sizeOf126
  t124 := Tryd.underlying74
  a124 := Tryd.isAgg74
  z124 := Tryd.sizeOf74
  v124 := Tryd.zeroValue74
  t138 := Tryd.underlying128
  a138 := Tryd.isAgg128
  z138 := Tryd.sizeOf128
  v138 := Tryd.zeroValue128
  t139 := Tryd.underlying129
  a139 := Tryd.isAgg129
  z139 := Tryd.sizeOf129
  v139 := Tryd.zeroValue129
  g3 := by kernel_rfl
  g4 := by kernel_rfl }

def Tryd.lay162_ren : Go.Shelf.Ren := ⟨fun | 162 => 42 | 232 => 63 | 227 => 36 | 234 => 64 | 236 => 65 | 228 => 60 | 271 => 81 | 151 => 62 | 120 => 98 | 197 => 61 | 152 => 80 | 260 => 79 | 137 => 24 | 119 => 95 | 224 => 96 | 225 => 97 | 217 => 49 | 266 => 71 | n => n, fun | 9 => 9 | 4 => 4 | 3 => 3 | 5 => 5 | 117 => 71 | 116 => 70 | 0 => 0 | 124 => 74 | 21 => 21 | 105 => 100 | 46 => 61 | 119 => 126 | 139 => 129 | 138 => 128 | n => n, fun | 3 => 2 | 4 => 3 | n => n⟩
theorem Tryd.lay162 : Go.Proofs.Lays.n162 Tryd.prog Tryd.lay162_ren := {
  mixed := by kernel_rfl
  f119 := Tryd.func95.trans (congrArg some (by kernel_rfl))
  f120 := Tryd.func98.trans (congrArg some (by kernel_rfl))
  f137 := Tryd.func24.trans (congrArg some (by kernel_rfl))
  f151 := Tryd.func62.trans (congrArg some (by kernel_rfl))
  f152 := Tryd.func80.trans (congrArg some (by kernel_rfl))
  f162 := Tryd.func42.trans (congrArg some (by kernel_rfl))
  f197 := Tryd.func61.trans (congrArg some (by kernel_rfl))
  f217 := Tryd.func49.trans (congrArg some (by kernel_rfl))
  f224 := Tryd.func96.trans (congrArg some (by kernel_rfl))
  f225 := Tryd.func97.trans (congrArg some (by kernel_rfl))
  f227 := Tryd.func36.trans (congrArg some (by kernel_rfl))
  f228 := Tryd.func60.trans (congrArg some (by kernel_rfl))
  f232 := Tryd.func63.trans (congrArg some (by kernel_rfl))
  f234 := Tryd.func64.trans (congrArg some (by kernel_rfl))
  f236 := Tryd.func65.trans (congrArg some (by kernel_rfl))
  f260 := Tryd.func79.trans (congrArg some (by kernel_rfl))
  f266 := Tryd.func71.trans (congrArg some (by kernel_rfl))
  f271 := Tryd.func81.trans (congrArg some (by kernel_rfl))
  t0 := Tryd.underlying0
  a0 := Tryd.isAgg0
  z0 := Tryd.sizeOf0
  v0 := Tryd.zeroValue0
  t3 := Tryd.underlying3
  a3 := Tryd.isAgg3
  z3 := Tryd.sizeOf3
  v3 := Tryd.zeroValue3
  t4 := Tryd.underlying4
  a4 := Tryd.isAgg4
  z4 := Tryd.sizeOf4
  v4 := Tryd.zeroValue4
  t5 := Tryd.underlying5
  a5 := Tryd.isAgg5
  z5 := Tryd.sizeOf5
  v5 := Tryd.zeroValue5
  t9 := Tryd.underlying9
  a9 := Tryd.isAgg9
  z9 := Tryd.sizeOf9
  v9 := Tryd.zeroValue9
  t21 := Tryd.underlying21
  a21 := Tryd.isAgg21
  z21 := Tryd.sizeOf21
  v21 := Tryd.zeroValue21
  t46 := Tryd.underlying61
  a46 := Tryd.isAgg61
  z46 := Tryd.sizeOf61
  v46 := Tryd.zeroValue61
  t105 := Tryd.underlying100
  a105 := Tryd.isAgg100
  z105 := Tryd.sizeOf100
  v105 := Tryd.zeroValue100
  t116 := Tryd.underlying70
  a116 := Tryd.isAgg70
  z116 := Tryd.sizeOf70
  t117 := Tryd.underlying71
  a117 := Tryd.isAgg71
  z117 := Tryd.sizeOf71
  v117 := Tryd.zeroValue71
  t119 := Tryd.underlying126
  a119 := Tryd.isAgg126
  z119 := Tryd.sizeOf126
  t124 := Tryd.underlying74
  a124 := Tryd.isAgg74
  z124 := Tryd.sizeOf74
  v124 := Tryd.zeroValue74
  t138 := Tryd.underlying128
  a138 := Tryd.isAgg128
  z138 := Tryd.sizeOf128
  v138 := Tryd.zeroValue128
  t139 := Tryd.underlying129
  a139 := Tryd.isAgg129
  z139 := Tryd.sizeOf129
  v139 := Tryd.zeroValue129
  g3 := by kernel_rfl
  g4 := by kernel_rfl }

def Tryd.lay172_ren : Go.Shelf.Ren := ⟨fun | 172 => 43 | 244 => 66 | 245 => 67 | 247 => 82 | 279 => 83 | 280 => 84 | 281 => 85 | 282 => 86 | 287 => 99 | 316 => 100 | 171 => 17 | 205 => 101 | 321 => 106 | 322 => 107 | 243 => 30 | 246 => 55 | 283 => 74 | 284 => 75 | 285 => 76 | 286 => 77 | 129 => 91 | 317 => 90 | 318 => 92 | 319 => 93 | 320 => 94 | 337 => 104 | 338 => 105 | n => n, fun | 9 => 9 | 3 => 3 | 75 => 47 | 76 => 50 | 4 => 4 | 5 => 5 | 167 => 114 | 37 => 43 | 0 => 0 | 85 => 115 | 2 => 2 | 168 => 117 | 53 => 96 | 175 => 132 | 46 => 61 | 210 => 136 | 127 => 67 | 145 => 142 | 143 => 140 | 21 => 21 | 171 => 108 | 173 => 111 | 212 => 122 | 51 => 93 | 20 => 20 | 213 => 123 | 232 => 143 | 233 => 144 | 80 => 53 | n => n, fun | 15 => 4 | 16 => 5 | 17 => 1 | 18 => 6 | 19 => 7 | n => n⟩
theorem Tryd.lay172 : Go.Proofs.LaysC.n172 Tryd.prog Tryd.lay172_ren := {
  mixed := by kernel_rfl
  f129 := Tryd.func91.trans (congrArg some (by kernel_rfl))
  f171 := Tryd.func17.trans (congrArg some (by kernel_rfl))
  f172 := Tryd.func43.trans (congrArg some (by kernel_rfl))
  f205 := Tryd.func101.trans (congrArg some (by kernel_rfl))
  f243 := Tryd.func30.trans (congrArg some (by kernel_rfl))
  f244 := Tryd.func66.trans (congrArg some (by kernel_rfl))
  f245 := Tryd.func67.trans (congrArg some (by kernel_rfl))
  f246 := Tryd.func55.trans (congrArg some (by kernel_rfl))
  f247 := Tryd.func82.trans (congrArg some (by kernel_rfl))
  f279 := Tryd.func83.trans (congrArg some (by kernel_rfl))
  f280 := Tryd.func84.trans (congrArg some (by kernel_rfl))
  f281 := Tryd.func85.trans (congrArg some (by kernel_rfl))
  f282 := Tryd.func86.trans (congrArg some (by kernel_rfl))
  f283 := Tryd.func74.trans (congrArg some (by kernel_rfl))
  f284 := Tryd.func75.trans (congrArg some (by kernel_rfl))
  f285 := Tryd.func76.trans (congrArg some (by kernel_rfl))
  f286 := Tryd.func77.trans (congrArg some (by kernel_rfl))
  f287 := Tryd.func99.trans (congrArg some (by kernel_rfl))
  f316 := Tryd.func100.trans (congrArg some (by kernel_rfl))
  f317 := Tryd.func90.trans (congrArg some (by kernel_rfl))
  f318 := Tryd.func92.trans (congrArg some (by kernel_rfl))
  f319 := Tryd.func93.trans (congrArg some (by kernel_rfl))
  f320 := Tryd.func94.trans (congrArg some (by kernel_rfl))
  f321 := Tryd.func106.trans (congrArg some (by kernel_rfl))
  f322 := Tryd.func107.trans (congrArg some (by kernel_rfl))
  f337 := Tryd.func104.trans (congrArg some (by kernel_rfl))
  f338 := Tryd.func105.trans (congrArg some (by kernel_rfl))
  t0 := Tryd.underlying0
  a0 := Tryd.isAgg0
  z0 := Tryd.sizeOf0
  v0 := Tryd.zeroValue0
  t2 := Tryd.underlying2
  a2 := Tryd.isAgg2
  z2 := Tryd.sizeOf2
  v2 := Tryd.zeroValue2
  t3 := Tryd.underlying3
  a3 := Tryd.isAgg3
  z3 := Tryd.sizeOf3
  v3 := Tryd.zeroValue3
  t4 := Tryd.underlying4
  a4 := Tryd.isAgg4
  z4 := Tryd.sizeOf4
  v4 := Tryd.zeroValue4
  t5 := Tryd.underlying5
  a5 := Tryd.isAgg5
  z5 := Tryd.sizeOf5
  v5 := Tryd.zeroValue5
  t9 := Tryd.underlying9
  a9 := Tryd.isAgg9
  z9 := Tryd.sizeOf9
  v9 := Tryd.zeroValue9
  t20 := Tryd.underlying20
  a20 := Tryd.isAgg20
  z20 := Tryd.sizeOf20
  v20 := Tryd.zeroValue20
  t21 := Tryd.underlying21
  a21 := Tryd.isAgg21
  z21 := Tryd.sizeOf21
  v21 := Tryd.zeroValue21
  t37 := Tryd.underlying43
  a37 := Tryd.isAgg43
  z37 := Tryd.sizeOf43
  v37 := Tryd.zeroValue43
  t46 := Tryd.underlying61
  a46 := Tryd.isAgg61
  z46 := Tryd.sizeOf61
  v46 := Tryd.zeroValue61
  t51 := Tryd.underlying93
  a51 := Tryd.isAgg93
  z51 := Tryd.sizeOf93
  v51 := Tryd.zeroValue93
  t53 := Tryd.underlying96
  a53 := Tryd.isAgg96
  z53 := Tryd.sizeOf96
  v53 := Tryd.zeroValue96
  t75 := Tryd.underlying47
  a75 := Tryd.isAgg47
  z75 := Tryd.sizeOf47
  v75 := Tryd.zeroValue47
  t76 := Tryd.underlying50
  a76 := Tryd.isAgg50
  z76 := Tryd.sizeOf50
  v76 := Tryd.zeroValue50
  t85 := Tryd.underlying115
  a85 := Tryd.isAgg115
  z85 := Tryd.sizeOf115
  v85 := Tryd.zeroValue115
  t127 := Tryd.underlying67
  a127 := Tryd.isAgg67
  z127 := Tryd.sizeOf67
  v127 := Tryd.zeroValue67
  t143 := Tryd.underlying140
  a143 := Tryd.isAgg140
  z143 := Tryd.sizeOf140
  v143 := Tryd.zeroValue140
  t145 := Tryd.underlying142
  a145 := Tryd.isAgg142
  z145 := Tryd.sizeOf142
  v145 := Tryd.zeroValue142
  t167 := Tryd.underlying114
  a167 := Tryd.isAgg114
  z167 := Tryd.sizeOf114
  v167 := Tryd.zeroValue114
  t168 := Tryd.underlying117
  a168 := Tryd.isAgg117
  z168 := Tryd.sizeOf117
  v168 := Tryd.zeroValue117
  t171 := Tryd.underlying108
  a171 := Tryd.isAgg108
  z171 := Tryd.sizeOf108
  v171 := Tryd.zeroValue108
  t173 := Tryd.underlying111
  a173 := Tryd.isAgg111
  z173 := Tryd.sizeOf111
  v173 := Tryd.zeroValue111
  t175 := Tryd.underlying132
  a175 := Tryd.isAgg132
  z175 := Tryd.sizeOf132
  v175 := Tryd.zeroValue132
  t210 := Tryd.underlying136
  a210 := Tryd.isAgg136
  z210 := Tryd.sizeOf136
  v210 := Tryd.zeroValue136
  t212 := Tryd.underlying122
  a212 := Tryd.isAgg122
  z212 := Tryd.sizeOf122
  v212 := Tryd.zeroValue122
  t213 := Tryd.underlying123
  a213 := Tryd.isAgg123
  z213 := Tryd.sizeOf123
  t232 := Tryd.underlying143
  a232 := Tryd.isAgg143
  z232 := Tryd.sizeOf143
  v232 := Tryd.zeroValue143
  t233 := Tryd.underlying144
  a233 := Tryd.isAgg144
  z233 := Tryd.sizeOf144
  v233 := Tryd.zeroValue144
  g15 := by kernel_rfl
  g16 := by kernel_rfl
  g17 := by kernel_rfl
  g18 := by kernel_rfl
  g19 := by kernel_rfl
  t80 := Tryd.underlying53
  a80 := Tryd.isAgg53
  z80 := Tryd.sizeOf53
  v80 := Tryd.zeroValue53
  i0 := by kernel_rfl
  i2 := by kernel_rfl
  i3 := by kernel_rfl
  i4 := by kernel_rfl
  i5 := by kernel_rfl
  i9 := by kernel_rfl
  i20 := by kernel_rfl
  i21 := by kernel_rfl
  i37 := by kernel_rfl
  i46 := by kernel_rfl
  i51 := by kernel_rfl
  i53 := by kernel_rfl
  i75 := by kernel_rfl
  i76 := by kernel_rfl
  i80 := by kernel_rfl
  i85 := by kernel_rfl
  i127 := by kernel_rfl
  i143 := by kernel_rfl
  i145 := by kernel_rfl
  i167 := by kernel_rfl
  i168 := by kernel_rfl
  i171 := by kernel_rfl
  i173 := by kernel_rfl
  i175 := by kernel_rfl
  i210 := by kernel_rfl
  i212 := by kernel_rfl
  i232 := by kernel_rfl
  i233 := by kernel_rfl
  m15 := by kernel_rfl
  m16 := by kernel_rfl
  m17 := by kernel_rfl
  m18 := by kernel_rfl
  m19 := by kernel_rfl
  c0 := by kernel_rfl
  c2 := by kernel_rfl
  c3 := by kernel_rfl
  c4 := by kernel_rfl
  c5 := by kernel_rfl
  c9 := by kernel_rfl
  c20 := by kernel_rfl
  c21 := by kernel_rfl
  c37 := by kernel_rfl
  c46 := by kernel_rfl
  c51 := by kernel_rfl
  c53 := by kernel_rfl
  c75 := by kernel_rfl
  c76 := by kernel_rfl
  c80 := by kernel_rfl
  c85 := by kernel_rfl
  c127 := by kernel_rfl
  c143 := by kernel_rfl
  c145 := by kernel_rfl
  c167 := by kernel_rfl
  c168 := by kernel_rfl
  c171 := by kernel_rfl
  c173 := by kernel_rfl
  c175 := by kernel_rfl
  c210 := by kernel_rfl
  c212 := by kernel_rfl
  c213 := by kernel_rfl
  c232 := by kernel_rfl
  c233 := by kernel_rfl }

def Tryd.lay245_ren : Go.Shelf.Ren := ⟨fun | 245 => 67 | 279 => 83 | 280 => 84 | 281 => 85 | 282 => 86 | 316 => 100 | 171 => 17 | 205 => 101 | 243 => 30 | 246 => 55 | 283 => 74 | 284 => 75 | 285 => 76 | 286 => 77 | 129 => 91 | 317 => 90 | 318 => 92 | 319 => 93 | 320 => 94 | 337 => 104 | 338 => 105 | n => n, fun | 9 => 9 | 3 => 3 | 75 => 47 | 167 => 114 | 4 => 4 | 168 => 117 | 210 => 136 | 37 => 43 | 0 => 0 | 127 => 67 | 145 => 142 | 143 => 140 | 2 => 2 | 171 => 108 | 53 => 96 | 5 => 5 | 173 => 111 | 212 => 122 | 51 => 93 | 20 => 20 | 213 => 123 | 46 => 61 | 232 => 143 | 233 => 144 | 80 => 53 | n => n, fun | 15 => 4 | 16 => 5 | 17 => 1 | 18 => 6 | 19 => 7 | n => n⟩
theorem Tryd.lay245 : Go.Proofs.LaysC.n245 Tryd.prog Tryd.lay245_ren := {
  mixed := by kernel_rfl
  f129 := Tryd.func91.trans (congrArg some (by kernel_rfl))
  f171 := Tryd.func17.trans (congrArg some (by kernel_rfl))
  f205 := Tryd.func101.trans (congrArg some (by kernel_rfl))
  f243 := Tryd.func30.trans (congrArg some (by kernel_rfl))
  f245 := Tryd.func67.trans (congrArg some (by kernel_rfl))
  f246 := Tryd.func55.trans (congrArg some (by kernel_rfl))
  f279 := Tryd.func83.trans (congrArg some (by kernel_rfl))
  f280 := Tryd.func84.trans (congrArg some (by kernel_rfl))
  f281 := Tryd.func85.trans (congrArg some (by kernel_rfl))
  f282 := Tryd.func86.trans (congrArg some (by kernel_rfl))
  f283 := Tryd.func74.trans (congrArg some (by kernel_rfl))
  f284 := Tryd.func75.trans (congrArg some (by kernel_rfl))
  f285 := Tryd.func76.trans (congrArg some (by kernel_rfl))
  f286 := Tryd.func77.trans (congrArg some (by kernel_rfl))
  f316 := Tryd.func100.trans (congrArg some (by kernel_rfl))
  f317 := Tryd.func90.trans (congrArg some (by kernel_rfl))
  f318 := Tryd.func92.trans (congrArg some (by kernel_rfl))
  f319 := Tryd.func93.trans (congrArg some (by kernel_rfl))
  f320 := Tryd.func94.trans (congrArg some (by kernel_rfl))
  f337 := Tryd.func104.trans (congrArg some (by kernel_rfl))
  f338 := Tryd.func105.trans (congrArg some (by kernel_rfl))
  t0 := Tryd.underlying0
  a0 := Tryd.isAgg0
  z0 := Tryd.sizeOf0
  v0 := Tryd.zeroValue0
  t2 := Tryd.underlying2
  a2 := Tryd.isAgg2
  z2 := Tryd.sizeOf2
  v2 := Tryd.zeroValue2
  t3 := Tryd.underlying3
  a3 := Tryd.isAgg3
  z3 := Tryd.sizeOf3
  v3 := Tryd.zeroValue3
  t4 := Tryd.underlying4
  a4 := Tryd.isAgg4
  z4 := Tryd.sizeOf4
  v4 := Tryd.zeroValue4
  t5 := Tryd.underlying5
  a5 := Tryd.isAgg5
  z5 := Tryd.sizeOf5
  v5 := Tryd.zeroValue5
  t9 := Tryd.underlying9
  a9 := Tryd.isAgg9
  z9 := Tryd.sizeOf9
  v9 := Tryd.zeroValue9
  t20 := Tryd.underlying20
  a20 := Tryd.isAgg20
  z20 := Tryd.sizeOf20
  v20 := Tryd.zeroValue20
  t37 := Tryd.underlying43
  a37 := Tryd.isAgg43
  z37 := Tryd.sizeOf43
  v37 := Tryd.zeroValue43
  t46 := Tryd.underlying61
  a46 := Tryd.isAgg61
  z46 := Tryd.sizeOf61
  v46 := Tryd.zeroValue61
  t51 := Tryd.underlying93
  a51 := Tryd.isAgg93
  z51 := Tryd.sizeOf93
  v51 := Tryd.zeroValue93
  t53 := Tryd.underlying96
  a53 := Tryd.isAgg96
  z53 := Tryd.sizeOf96
  v53 := Tryd.zeroValue96
  t75 := Tryd.underlying47
  a75 := Tryd.isAgg47
  z75 := Tryd.sizeOf47
  v75 := Tryd.zeroValue47
  t127 := Tryd.underlying67
  a127 := Tryd.isAgg67
  z127 := Tryd.sizeOf67
  v127 := Tryd.zeroValue67
  t143 := Tryd.underlying140
  a143 := Tryd.isAgg140
  z143 := Tryd.sizeOf140
  v143 := Tryd.zeroValue140
  t145 := Tryd.underlying142
  a145 := Tryd.isAgg142
  z145 := Tryd.sizeOf142
  v145 := Tryd.zeroValue142
  t167 := Tryd.underlying114
  a167 := Tryd.isAgg114
  z167 := Tryd.sizeOf114
  v167 := Tryd.zeroValue114
  t168 := Tryd.underlying117
  a168 := Tryd.isAgg117
  z168 := Tryd.sizeOf117
  v168 := Tryd.zeroValue117
  t171 := Tryd.underlying108
  a171 := Tryd.isAgg108
  z171 := Tryd.sizeOf108
  v171 := Tryd.zeroValue108
  t173 := Tryd.underlying111
  a173 := Tryd.isAgg111
  z173 := Tryd.sizeOf111
  v173 := Tryd.zeroValue111
  t210 := Tryd.underlying136
  a210 := Tryd.isAgg136
  z210 := Tryd.sizeOf136
  v210 := Tryd.zeroValue136
  t212 := Tryd.underlying122
  a212 := Tryd.isAgg122
  z212 := Tryd.sizeOf122
  v212 := Tryd.zeroValue122
  t213 := Tryd.underlying123
  a213 := Tryd.isAgg123
  z213 := Tryd.sizeOf123
  t232 := Tryd.underlying143
  a232 := Tryd.isAgg143
  z232 := Tryd.sizeOf143
  v232 := Tryd.zeroValue143
  t233 := Tryd.underlying144
  a233 := Tryd.isAgg144
  z233 := Tryd.sizeOf144
  v233 := Tryd.zeroValue144
  g15 := by kernel_rfl
  g16 := by kernel_rfl
  g17 := by kernel_rfl
  g18 := by kernel_rfl
  g19 := by kernel_rfl
  t80 := Tryd.underlying53
  a80 := Tryd.isAgg53
  z80 := Tryd.sizeOf53
  v80 := Tryd.zeroValue53
  i0 := by kernel_rfl
  i2 := by kernel_rfl
  i3 := by kernel_rfl
  i4 := by kernel_rfl
  i5 := by kernel_rfl
  i9 := by kernel_rfl
  i20 := by kernel_rfl
  i37 := by kernel_rfl
  i46 := by kernel_rfl
  i51 := by kernel_rfl
  i53 := by kernel_rfl
  i75 := by kernel_rfl
  i80 := by kernel_rfl
  i127 := by kernel_rfl
  i143 := by kernel_rfl
  i145 := by kernel_rfl
  i167 := by kernel_rfl
  i168 := by kernel_rfl
  i171 := by kernel_rfl
  i173 := by kernel_rfl
  i210 := by kernel_rfl
  i212 := by kernel_rfl
  i232 := by kernel_rfl
  i233 := by kernel_rfl
  m15 := by kernel_rfl
  m16 := by kernel_rfl
  m17 := by kernel_rfl
  m18 := by kernel_rfl
  m19 := by kernel_rfl
  c0 := by kernel_rfl
  c2 := by kernel_rfl
  c3 := by kernel_rfl
  c4 := by kernel_rfl
  c5 := by kernel_rfl
  c9 := by kernel_rfl
  c20 := by kernel_rfl
  c37 := by kernel_rfl
  c46 := by kernel_rfl
  c51 := by kernel_rfl
  c53 := by kernel_rfl
  c75 := by kernel_rfl
  c80 := by kernel_rfl
  c127 := by kernel_rfl
  c143 := by kernel_rfl
  c145 := by kernel_rfl
  c167 := by kernel_rfl
  c168 := by kernel_rfl
  c171 := by kernel_rfl
  c173 := by kernel_rfl
  c210 := by kernel_rfl
  c212 := by kernel_rfl
  c213 := by kernel_rfl
  c232 := by kernel_rfl
  c233 := by kernel_rfl }

def Tryd.lay150_ren : Go.Shelf.Ren := ⟨fun | 150 => 103 | 153 => 108 | 152 => 80 | 226 => 109 | 227 => 36 | 228 => 60 | 137 => 24 | 119 => 95 | 224 => 96 | 225 => 97 | 217 => 49 | 266 => 71 | n => n, fun | 9 => 9 | 4 => 4 | 3 => 3 | 5 => 5 | 21 => 21 | 117 => 71 | 116 => 70 | 0 => 0 | 46 => 61 | 124 => 74 | n => n, fun | n => n⟩
theorem Tryd.lay150 : Go.Proofs.Lays.n150 Tryd.prog Tryd.lay150_ren := {
  mixed := by kernel_rfl
  f119 := Tryd.func95.trans (congrArg some (by kernel_rfl))
  f137 := Tryd.func24.trans (congrArg some (by kernel_rfl))
  f150 := Tryd.func103.trans (congrArg some (by kernel_rfl))
  f152 := Tryd.func80.trans (congrArg some (by kernel_rfl))
  f153 := Tryd.func108.trans (congrArg some (by kernel_rfl))
  f217 := Tryd.func49.trans (congrArg some (by kernel_rfl))
  f224 := Tryd.func96.trans (congrArg some (by kernel_rfl))
  f225 := Tryd.func97.trans (congrArg some (by kernel_rfl))
  f226 := Tryd.func109.trans (congrArg some (by kernel_rfl))
  f227 := Tryd.func36.trans (congrArg some (by kernel_rfl))
  f228 := Tryd.func60.trans (congrArg some (by kernel_rfl))
  f266 := Tryd.func71.trans (congrArg some (by kernel_rfl))
  t0 := Tryd.underlying0
  a0 := Tryd.isAgg0
  z0 := Tryd.sizeOf0
  v0 := Tryd.zeroValue0
  t3 := Tryd.underlying3
  a3 := Tryd.isAgg3
  z3 := Tryd.sizeOf3
  v3 := Tryd.zeroValue3
  t4 := Tryd.underlying4
  a4 := Tryd.isAgg4
  z4 := Tryd.sizeOf4
  v4 := Tryd.zeroValue4
  t5 := Tryd.underlying5
  a5 := Tryd.isAgg5
  z5 := Tryd.sizeOf5
  v5 := Tryd.zeroValue5
  t9 := Tryd.underlying9
  a9 := Tryd.isAgg9
  z9 := Tryd.sizeOf9
  v9 := Tryd.zeroValue9
  t21 := Tryd.underlying21
  a21 := Tryd.isAgg21
  z21 := Tryd.sizeOf21
  v21 := Tryd.zeroValue21
  t46 := Tryd.underlying61
  a46 := Tryd.isAgg61
  z46 := Tryd.sizeOf61
  v46 := Tryd.zeroValue61
  t116 := Tryd.underlying70
  a116 := Tryd.isAgg70
  z116 := Tryd.sizeOf70
  t117 := Tryd.underlying71
  a117 := Tryd.isAgg71
  z117 := Tryd.sizeOf71
  v117 := Tryd.zeroValue71
  t124 := Tryd.underlying74
  a124 := Tryd.isAgg74
  z124 := Tryd.sizeOf74
  v124 := Tryd.zeroValue74 }

def Tryd.lay137_ren : Go.Shelf.Ren := ⟨fun | 137 => 24 | 217 => 49 | 266 => 71 | n => n, fun | 9 => 9 | 5 => 5 | 3 => 3 | n => n, fun | n => n⟩
theorem Tryd.lay137 : Go.Proofs.Lays.n137 Tryd.prog Tryd.lay137_ren := {
  mixed := by kernel_rfl
  f137 := Tryd.func24.trans (congrArg some (by kernel_rfl))
  f217 := Tryd.func49.trans (congrArg some (by kernel_rfl))
  f266 := Tryd.func71.trans (congrArg some (by kernel_rfl))
  t3 := Tryd.underlying3
  a3 := Tryd.isAgg3
  z3 := Tryd.sizeOf3
  v3 := Tryd.zeroValue3
  t5 := Tryd.underlying5
  a5 := Tryd.isAgg5
  z5 := Tryd.sizeOf5
  v5 := Tryd.zeroValue5
  t9 := Tryd.underlying9
  a9 := Tryd.isAgg9
  z9 := Tryd.sizeOf9
  v9 := Tryd.zeroValue9 }

def Tryd.lay169_ren : Go.Shelf.Ren := ⟨fun | 169 => 20 | n => n, fun | 70 => 42 | 9 => 9 | 0 => 0 | 72 => 45 | 37 => 43 | 127 => 67 | 3 => 3 | 5 => 5 | n => n, fun | n => n⟩
theorem Tryd.lay169 : Go.Proofs.Lays.n169 Tryd.prog Tryd.lay169_ren := {
  mixed := by kernel_rfl
  f169 := Tryd.func20.trans (congrArg some (by kernel_rfl))
  t0 := Tryd.underlying0
  a0 := Tryd.isAgg0
  z0 := Tryd.sizeOf0
  v0 := Tryd.zeroValue0
  t3 := Tryd.underlying3
  a3 := Tryd.isAgg3
  z3 := Tryd.sizeOf3
  v3 := Tryd.zeroValue3
  t9 := Tryd.underlying9
  a9 := Tryd.isAgg9
  z9 := Tryd.sizeOf9
  v9 := Tryd.zeroValue9
  t37 := Tryd.underlying43
  a37 := Tryd.isAgg43
  z37 := Tryd.sizeOf43
  v37 := Tryd.zeroValue43
  t70 := Tryd.underlying42
  a70 := Tryd.isAgg42
  z70 := Tryd.sizeOf42
  v70 := Tryd.zeroValue42
  t72 := Tryd.underlying45
  a72 := Tryd.isAgg45
  z72 := Tryd.sizeOf45
  v72 := Tryd.zeroValue45
  t127 := Tryd.underlying67
  a127 := Tryd.isAgg67
  z127 := Tryd.sizeOf67
  v127 := Tryd.zeroValue67 }

end Go.Proofs

