/-
  FieldOrder: for every input whose bulk is at most 1048576 the law returns true, and each argument reads behind the call as it read before; part 5 of 8 of the proof: an interpreter of the model's code over typed data, proved sound; the functions that the law reaches, printed as Lean functions and tied; the plain law. Own texts laid one behind the other.
-/
import Derived.OpenShut
import Derived.JoinedCond
import Derived.Test.YtcocpfgemdkkfaaProg
import Derived.Test.YtcocpfgemdkkfaaFieldOrderB4
/-
  The abstract interpreter, part 36: from a function's spec to its row: it returns true, and what came in reads as it did. Own work.
-/
namespace Go.Yard
open Go.RowKit Go.ChangeShapes Go.WideShapes Go.Proofs.Ytcocpfgemdkkfaa

/-- What a law is asked. -/
def kOk : V → Heap → Option Unit := fun v _ => match v with | .bool true => some () | _ => none

/-- The world went on: what stood there stands. -/
def Later (w w' : World) : Prop := w'.os = w.os ∧ w'.output = w.output ∧ w.heap.size ≤ w'.heap.size ∧ ∀ b, b < w.heap.size → w'.heap[b]? = w.heap[b]?

section
variable {H : Type} {enc : TypeId × Value → H} {P : Program} {tt : TTab} {w : World} {spare : Nat → Bool} {held : Bool}

theorem none_owned (c : Cfg) (b y : Nat) : ¬ Owns ([] : Heap) c b y := fun ho => by
  obtain ⟨i, f, _, g2, _⟩ := ho
  simp [Heap.at, AObj.from_] at g2

theorem calls_true {g : Nat} {fn : Func} (hf : P.funcs[g]? = some fn) (hn : (fn.name == "runtime.NumGoroutine") = false) (hb : fn.body.isNone = false) {sp : Spec Unit} (hsp : Spec.Ok P g sp) {vs : List V} {args : Array Value}
    (ra : RepL w [] cfg0 vs args.toList) (hk : sp vs [] kOk = some ()) : Calls P g args w fun e w' => e = .returned (.bool true) ∧ Later w w' := by
  obtain ⟨nx, w1, h1, h2⟩ := hsp vs [] kOk () hk w cfg0 args (wf0 w) ra
  have hn' : fn.name ≠ "runtime.NumGoroutine" := by simpa using hn
  have hb' : fn.body ≠ none := fun e => by rw [e] at hb; cases hb
  have h0 : (callFunc g args).run P w = .ok (.enter g args) w := by simp [callFunc, hf, hn', hb']
  rw [h0] at h1
  cases h1
  refine Calls.mono h2 fun e w' ⟨d, he, v, h', c', _, x, rv, hv⟩ => ?_
  subst he
  have hv' : v = .bool true := by
    unfold kOk at hv
    split at hv
    · rfl
    · cases hv
  subst hv'
  cases rv
  exact ⟨rfl, x.os, x.output, x.size, fun b hb => x.block b hb (none_owned _ b)⟩

def oneCell (P : Program) (t : TypeId) : Bool :=
  match P.underlying t with
  | some .bool | some (.int _) | some .string | some (.slice _) => true
  | _ => false

theorem arg_one {N : Nat} (hall : LeavesOk P tt) {t : TypeId} {v : Value} {d : DataW H} {ps : List MemPlace} {p : Leaf} {base : Nat} (ho : oneCell P t = true) (hl : leavesOf P tt 8 t = some [p]) (hval : Value.okWide P w .any base t v)
    (h : DataW.Trod enc P w 0 spare held t v d ps) (hb : Rows.uptoBulk d ≤ N) (hN : N ≤ mx) : ∃ x : p.den, Rep w [] cfg0 (p.enc x) v ∧ Small N (p.enc x) := by
  obtain ⟨n, h⟩ := h
  obtain ⟨vs, ⟨x, rfl⟩, h2, h3⟩ := read_trod hall n t _ _ 8 _ h hl hb hN
  have hc : v.cells.toList = [v] := by
    unfold oneCell at ho
    unfold Value.okWide at hval
    cases hu : P.underlying t with
    | none => rw [hu] at ho; cases ho
    | some u =>
      rw [hu] at ho hval
      cases u <;> simp only at ho <;> try (first | cases ho) <;> (cases v <;> simp [Cell.okWide, Cell.ok, hu] at hval <;> rfl)
  rw [hc] at h2
  exact ⟨x.1, h2.head, h3 _ (by show p.enc x.1 ∈ [p.enc x.1]; simp)⟩

theorem params_ok {ts : List TypeId} (h : ts.all (fun t => P.readableRec t && decide (t < P.types.size)) = true) : ∀ t ∈ ts, P.readableRec t = true ∧ t < P.types.size := by
  intro t ht
  have := List.all_eq_true.1 h t ht
  simpa using this

def aggCell (P : Program) (t : TypeId) : Bool :=
  match P.underlying t with
  | some (.struct _) | some (.array _ _) => true
  | _ => false

theorem arg_agg {N : Nat} (hall : LeavesOk P tt) {t : TypeId} {v : Value} {d : DataW H} {ps : List MemPlace} {T : Ty} {base : Nat} (ho : aggCell P t = true) (hl : leavesOf P tt 8 t = some T.leaves) (hval : Value.okWide P w .any base t v)
    (h : DataW.Trod enc P w 0 spare held t v d ps) (hb : Rows.uptoBulk d ≤ N) (hN : N ≤ mx) : ∃ x : T.den, Rep w [] cfg0 (.agg (T.cells x)) v ∧ ∀ c ∈ T.cells x, Small N c := by
  obtain ⟨n, h⟩ := h
  obtain ⟨vs, ⟨x, rfl⟩, h2, h3⟩ := read_trod hall n t _ _ 8 _ h hl hb hN
  obtain ⟨y, hy⟩ := leaves_cells T x
  rw [← hy] at h2 h3
  have hc : ∃ cs, v = .agg cs := by
    unfold aggCell at ho
    unfold Value.okWide at hval
    cases hu : P.underlying t with
    | none => rw [hu] at ho; cases ho
    | some u =>
      rw [hu] at ho hval
      cases u <;> simp only at ho <;> try (first | cases ho) <;> (obtain ⟨cs, hc, _⟩ := hval; exact ⟨cs, hc⟩)
  obtain ⟨cs, rfl⟩ := hc
  exact ⟨y, .agg (by have := h2.1; simpa [Value.cells] using this) fun j v d hv hd => h2.2 j v d hv (by simpa [Value.cells] using hd), h3⟩

theorem args_later (hl : laidOutB P = true) {w' : World} (L : Later w w') : ∀ {ts : List TypeId} {vs : List Value} {ds : List (DataW H)} {ps : List MemPlace}, (∀ t ∈ ts, P.readableRec t = true ∧ t < P.types.size) →
    DataW.TrodAll enc P w 0 (fun _ => true) true ts vs ds ps → DataW.TrodAll enc P w' 0 (fun b => decide (b < w.heap.size)) true ts vs ds ps
  | [], vs, ds, ps, _, h => by obtain ⟨rfl, rfl, rfl⟩ := trodAll_nil h; exact h
  | t :: ts, vs, ds, ps, hp, h => by
    have hlt := h.lt
    obtain ⟨v, vs1, d, ds1, p, q, rfl, rfl, rfl, h1, h2⟩ := trodAll_cons h
    obtain ⟨hr, hrow⟩ := hp t (by simp)
    have hb : ∀ x ∈ p, x.block < w.heap.size := fun x hx => hlt x (by simp [hx])
    refine trodAll_cons_mk (WideElems.Trod_stays hl hr hrow h1 (fun x hx => ?_) fun x hx => by simpa using hb x hx) (args_later hl L (fun t ht => hp t (by simp [ht])) h2)
    have := L.2.2.2 _ (hb x hx)
    cases x with
    | cell b o => simp only [World.sameAt, World.cell?]; simp only [MemPlace.block] at this; rw [this]
    | map b => exact this

theorem kept_later {w' : World} (L : Later w w') (may : MemPlace → Prop) : w.keptBut w' may := by
  refine ⟨L.1, L.2.1, fun i hi => ?_⟩
  rw [L.2.2.2 i hi]
  cases w.heap[i]? with
  | none => rfl
  | some o => cases o <;> simp

theorem post_true (hl : laidOutB P = true) {f : Func} {s : ChangeSpec} {w' : World} {args : Array Value} {ds gs : List (DataW H)} {before : List MemPlace} {tb : TypeId} (hp : ∀ t ∈ f.params.toList, P.readableRec t = true ∧ t < P.types.size)
    (hv : s.vars = []) (hs : s.fn H (ds ++ gs) = { results := [.lit (.bool true)], args := ds }) (hres : f.resultTypes = #[tb]) (hb : P.underlying tb = some .bool)
    (hW : DataW.Whole enc P f.params.toList s.vars false w args.toList ds gs before) (L : Later w w') : s.post enc P f false true false false w args (.bool true) w' := by
  have hW' := hW
  obtain ⟨p, q, hA, hV, hpq, hz, hn⟩ := hW'
  rw [hv] at hV
  obtain ⟨hg, hq⟩ := trodVars_none hV
  subst hg; subst hq
  refine ⟨ds, [], before, [], p, [], hW, ?_, ?_, ?_, kept_later L _, fun h => by cases h⟩
  · rw [hs, hres]
    exact trodAll_cons_mk (shut_bool hb _) trodAll_mk0
  · rw [hs]
    exact args_later hl L hp hA
  · rw [hs, hv]
    rfl
end
end Go.Yard

/-
  Plain lemmas for printed functions. Own work.
-/
namespace Go.Yard

theorem chk_pos {R : Type} {b : Bool} {k : Option R} (h : b = true) : chk b k = k := by subst h; rfl

theorem wrap_id {n : Int} (h1 : -9223372036854775808 ≤ n) (h2 : n ≤ 9223372036854775807) : IntKind.i64.wrap n = n := by
  simp only [IntKind.wrap, IntKind.bits, IntKind.signed, IntKind.min, IntKind.max]
  simp
  omega

theorem Json.eta (x : Json) : (⟨x.kind, ⟨x.num.mant, x.num.exp⟩, x.text, x.names, x.items⟩ : Json) = x := by cases x; rfl
theorem Raw.eta (x : Raw) : (⟨x.kind, x.mant, x.exp, x.text, x.items⟩ : Raw) = x := by cases x; rfl

theorem getD_at {α : Type} {l : List α} {i : Nat} (h : i < l.length) (d : α) : l.getD i d = l[i] := by simp [List.getD, h]
end Go.Yard

/-
  The table of this seat's types, written by wip/tools/tab.py out of Lean's own print.
-/
namespace Go.Proofs.Ytcocpfgemdkkfaa
open Go.Yard

def tt : TTab := [
  ⟨.other, 1, 0, [.undef], none, false, false⟩,
  ⟨.func, 1, 8, [.nilfunc], none, false, false⟩,
  ⟨.int .i64, 1, 8, [.int .i64 0], some (.int .i64), false, false⟩,
  ⟨.int .i64, 1, 8, [.int .i64 0], some (.int .i64), false, false⟩,
  ⟨.bool, 1, 1, [.bool false], some .bool, false, false⟩,
  ⟨.int .u8, 1, 1, [.int .u8 0], some (.int .u8), false, false⟩,
  ⟨.int .u8, 1, 1, [.int .u8 0], some (.int .u8), false, false⟩,
  ⟨.struct [(0, 2), (1, 3), (2, 4), (3, 6)], 4, 24, [.int .i64 0, .int .i64 0, .bool false, .int .u8 0], none, false, false⟩,
  ⟨.struct [(0, 2), (1, 3), (2, 4), (3, 6)], 4, 24, [.int .i64 0, .int .i64 0, .bool false, .int .u8 0], none, false, false⟩,
  ⟨.string, 1, 16, [.str []], some .str, false, false⟩,
  ⟨.string, 1, 16, [.str []], some .str, false, false⟩,
  ⟨.string, 1, 16, [.str []], some .str, false, false⟩,
  ⟨.int .u64, 1, 8, [.int .u64 0], some (.int .u64), false, false⟩,
  ⟨.struct [(0, 9), (1, 12)], 2, 24, [.str [], .int .u64 0], none, false, false⟩,
  ⟨.struct [(0, 9), (1, 12)], 2, 24, [.str [], .int .u64 0], none, false, false⟩,
  ⟨.ptr 136, 1, 8, [.nilptr], none, false, false⟩,
  ⟨.ptr 139, 1, 8, [.nilptr], none, false, false⟩,
  ⟨.ptr 149, 1, 8, [.nilptr], none, false, false⟩,
  ⟨.struct [(0, 17)], 1, 8, [.nilptr], none, false, false⟩,
  ⟨.struct [(0, 17)], 1, 8, [.nilptr], none, false, false⟩,
  ⟨.iface, 1, 16, [.niliface], none, false, false⟩,
  ⟨.int .i32, 1, 4, [.int .i32 0], some (.int .i32), false, false⟩,
  ⟨.slice 9, 1, 24, [.nilsl], none, false, false⟩,
  ⟨.func, 1, 8, [.nilfunc], none, false, false⟩,
  ⟨.ptr 91, 1, 8, [.nilptr], none, false, false⟩,
  ⟨.func, 1, 8, [.nilfunc], none, false, false⟩,
  ⟨.func, 1, 8, [.nilfunc], none, false, false⟩,
  ⟨.struct [(0, 9), (1, 9), (2, 4)], 3, 40, [.str [], .str [], .bool false], none, false, false⟩,
  ⟨.struct [(0, 9), (1, 9), (2, 4)], 3, 40, [.str [], .str [], .bool false], some .mail, true, false⟩,
  ⟨.other, 1, 0, [.undef], none, false, false⟩,
  ⟨.func, 1, 8, [.nilfunc], none, false, false⟩,
  ⟨.func, 1, 8, [.nilfunc], none, false, false⟩,
  ⟨.func, 1, 8, [.nilfunc], none, false, false⟩,
  ⟨.slice 28, 1, 24, [.nilsl], none, false, false⟩,
  ⟨.func, 1, 8, [.nilfunc], none, false, false⟩,
  ⟨.func, 1, 8, [.nilfunc], none, false, false⟩,
  ⟨.func, 1, 8, [.nilfunc], none, false, false⟩,
  ⟨.func, 1, 8, [.nilfunc], none, false, false⟩,
  ⟨.slice 45, 1, 24, [.nilsl], none, false, false⟩,
  ⟨.slice 42, 1, 24, [.nilsl], none, false, false⟩,
  ⟨.slice 3, 1, 24, [.nilsl], none, false, false⟩,
  ⟨.struct [(0, 3), (1, 3), (2, 3), (3, 40), (4, 39)], 5, 72, [.int .i64 0, .int .i64 0, .int .i64 0, .nilsl, .nilsl], none, false, false⟩,
  ⟨.struct [(0, 3), (1, 3), (2, 3), (3, 40), (4, 39)], 5, 72, [.int .i64 0, .int .i64 0, .int .i64 0, .nilsl, .nilsl], some .raw, false, false⟩,
  ⟨.slice 49, 1, 24, [.nilsl], none, false, false⟩,
  ⟨.struct [(0, 9), (1, 3), (2, 3), (3, 3), (4, 4)], 5, 48, [.str [], .int .i64 0, .int .i64 0, .int .i64 0, .bool false], none, false, false⟩,
  ⟨.struct [(0, 9), (1, 3), (2, 3), (3, 3), (4, 4)], 5, 48, [.str [], .int .i64 0, .int .i64 0, .int .i64 0, .bool false], some .fld, true, false⟩,
  ⟨.struct [(0, 3), (1, 3)], 2, 16, [.int .i64 0, .int .i64 0], none, false, false⟩,
  ⟨.struct [(0, 3), (1, 3)], 2, 16, [.int .i64 0, .int .i64 0], some .dcm, true, false⟩,
  ⟨.struct [(0, 3), (1, 47), (3, 9), (4, 22), (5, 43)], 6, 88, [.int .i64 0, .int .i64 0, .int .i64 0, .str [], .nilsl, .nilsl], none, false, false⟩,
  ⟨.struct [(0, 3), (1, 47), (3, 9), (4, 22), (5, 43)], 6, 88, [.int .i64 0, .int .i64 0, .int .i64 0, .str [], .nilsl, .nilsl], some .json, false, false⟩,
  ⟨.func, 1, 8, [.nilfunc], none, false, false⟩,
  ⟨.func, 1, 8, [.nilfunc], none, false, false⟩,
  ⟨.func, 1, 8, [.nilfunc], none, false, false⟩,
  ⟨.func, 1, 8, [.nilfunc], none, false, false⟩,
  ⟨.func, 1, 8, [.nilfunc], none, false, false⟩,
  ⟨.other, 1, 0, [.undef], none, false, false⟩,
  ⟨.func, 1, 8, [.nilfunc], none, false, false⟩,
  ⟨.func, 1, 8, [.nilfunc], none, false, false⟩,
  ⟨.func, 1, 8, [.nilfunc], none, false, false⟩,
  ⟨.other, 1, 0, [.undef], none, false, false⟩,
  ⟨.func, 1, 8, [.nilfunc], none, false, false⟩,
  ⟨.other, 1, 0, [.undef], none, false, false⟩,
  ⟨.func, 1, 8, [.nilfunc], none, false, false⟩,
  ⟨.other, 1, 0, [.undef], none, false, false⟩,
  ⟨.func, 1, 8, [.nilfunc], none, false, false⟩,
  ⟨.other, 1, 0, [.undef], none, false, false⟩,
  ⟨.func, 1, 8, [.nilfunc], none, false, false⟩,
  ⟨.func, 1, 8, [.nilfunc], none, false, false⟩,
  ⟨.func, 1, 8, [.nilfunc], none, false, false⟩,
  ⟨.func, 1, 8, [.nilfunc], none, false, false⟩,
  ⟨.func, 1, 8, [.nilfunc], none, false, false⟩,
  ⟨.func, 1, 8, [.nilfunc], none, false, false⟩,
  ⟨.func, 1, 8, [.nilfunc], none, false, false⟩,
  ⟨.func, 1, 8, [.nilfunc], none, false, false⟩,
  ⟨.func, 1, 8, [.nilfunc], none, false, false⟩,
  ⟨.func, 1, 8, [.nilfunc], none, false, false⟩,
  ⟨.func, 1, 8, [.nilfunc], none, false, false⟩,
  ⟨.slice 81, 1, 24, [.nilsl], none, false, false⟩,
  ⟨.ptr 120, 1, 8, [.nilptr], none, false, false⟩,
  ⟨.func, 1, 8, [.nilfunc], none, false, false⟩,
  ⟨.struct [(0, 3), (1, 3), (2, 3), (3, 5), (4, 9)], 5, 48, [.int .i64 0, .int .i64 0, .int .i64 0, .int .u8 0, .str []], none, false, false⟩,
  ⟨.struct [(0, 3), (1, 3), (2, 3), (3, 5), (4, 9)], 5, 48, [.int .i64 0, .int .i64 0, .int .i64 0, .int .u8 0, .str []], some .op17, true, false⟩,
  ⟨.func, 1, 8, [.nilfunc], none, false, false⟩,
  ⟨.map 9 4, 1, 8, [.nilmap], none, false, false⟩,
  ⟨.func, 1, 8, [.nilfunc], none, false, false⟩,
  ⟨.struct [], 0, 0, [], none, false, false⟩,
  ⟨.struct [], 0, 0, [], none, false, false⟩,
  ⟨.struct [], 0, 0, [], none, false, false⟩,
  ⟨.struct [(0, 86), (0, 87), (0, 2)], 1, 8, [.int .i64 0], none, false, false⟩,
  ⟨.struct [(0, 86), (0, 87), (0, 2)], 1, 8, [.int .i64 0], none, false, false⟩,
  ⟨.struct [(0, 33), (1, 89)], 2, 32, [.nilsl, .int .i64 0], none, false, false⟩,
  ⟨.struct [(0, 33), (1, 89)], 2, 32, [.nilsl, .int .i64 0], none, false, false⟩,
  ⟨.func, 1, 8, [.nilfunc], none, false, false⟩,
  ⟨.func, 1, 8, [.nilfunc], none, false, false⟩,
  ⟨.ptr 28, 1, 8, [.nilptr], none, false, false⟩,
  ⟨.func, 1, 8, [.nilfunc], none, false, false⟩,
  ⟨.func, 1, 8, [.nilfunc], none, false, false⟩,
  ⟨.func, 1, 8, [.nilfunc], none, false, false⟩,
  ⟨.func, 1, 8, [.nilfunc], none, false, false⟩,
  ⟨.slice 5, 1, 24, [.nilsl], none, false, false⟩,
  ⟨.func, 1, 8, [.nilfunc], none, false, false⟩,
  ⟨.func, 1, 8, [.nilfunc], none, false, false⟩,
  ⟨.func, 1, 8, [.nilfunc], none, false, false⟩,
  ⟨.func, 1, 8, [.nilfunc], none, false, false⟩,
  ⟨.func, 1, 8, [.nilfunc], none, false, false⟩,
  ⟨.func, 1, 8, [.nilfunc], none, false, false⟩,
  ⟨.func, 1, 8, [.nilfunc], none, false, false⟩,
  ⟨.func, 1, 8, [.nilfunc], none, false, false⟩,
  ⟨.func, 1, 8, [.nilfunc], none, false, false⟩,
  ⟨.func, 1, 8, [.nilfunc], none, false, false⟩,
  ⟨.func, 1, 8, [.nilfunc], none, false, false⟩,
  ⟨.func, 1, 8, [.nilfunc], none, false, false⟩,
  ⟨.func, 1, 8, [.nilfunc], none, false, false⟩,
  ⟨.func, 1, 8, [.nilfunc], none, false, false⟩,
  ⟨.func, 1, 8, [.nilfunc], none, false, false⟩,
  ⟨.func, 1, 8, [.nilfunc], none, false, false⟩,
  ⟨.other, 1, 0, [.undef], none, false, false⟩,
  ⟨.func, 1, 8, [.nilfunc], none, false, false⟩,
  ⟨.func, 1, 8, [.nilfunc], none, false, false⟩,
  ⟨.struct [(0, 33), (1, 3)], 2, 32, [.nilsl, .int .i64 0], none, false, false⟩,
  ⟨.struct [(0, 33), (1, 3)], 2, 32, [.nilsl, .int .i64 0], none, false, false⟩,
  ⟨.ptr 89, 1, 8, [.nilptr], none, false, false⟩,
  ⟨.func, 1, 8, [.nilfunc], none, false, false⟩,
  ⟨.ptr 2, 1, 8, [.nilptr], none, false, false⟩,
  ⟨.func, 1, 8, [.nilfunc], none, false, false⟩,
  ⟨.slice 21, 1, 24, [.nilsl], none, false, false⟩,
  ⟨.func, 1, 8, [.nilfunc], none, false, false⟩,
  ⟨.func, 1, 8, [.nilfunc], none, false, false⟩,
  ⟨.func, 1, 8, [.nilfunc], none, false, false⟩,
  ⟨.func, 1, 8, [.nilfunc], none, false, false⟩,
  ⟨.func, 1, 8, [.nilfunc], none, false, false⟩,
  ⟨.func, 1, 8, [.nilfunc], none, false, false⟩,
  ⟨.func, 1, 8, [.nilfunc], none, false, false⟩,
  ⟨.func, 1, 8, [.nilfunc], none, false, false⟩,
  ⟨.func, 1, 8, [.nilfunc], none, false, false⟩,
  ⟨.struct [(0, 17), (1, 17), (2, 17), (3, 9)], 4, 40, [.nilptr, .nilptr, .nilptr, .str []], none, false, false⟩,
  ⟨.struct [(0, 17), (1, 17), (2, 17), (3, 9)], 4, 40, [.nilptr, .nilptr, .nilptr, .str []], none, false, false⟩,
  ⟨.arr 0 16, 0, 0, [], none, false, false⟩,
  ⟨.struct [(0, 137)], 0, 0, [], none, false, false⟩,
  ⟨.struct [(0, 137)], 0, 0, [], none, false, false⟩,
  ⟨.func, 1, 8, [.nilfunc], none, false, false⟩,
  ⟨.int .u32, 1, 4, [.int .u32 0], some (.int .u32), false, false⟩,
  ⟨.int .u8, 1, 1, [.int .u8 0], some (.int .u8), false, false⟩,
  ⟨.int .u8, 1, 1, [.int .u8 0], some (.int .u8), false, false⟩,
  ⟨.func, 1, 8, [.nilfunc], none, false, false⟩,
  ⟨.ptr 5, 1, 8, [.nilptr], none, false, false⟩,
  ⟨.int .i32, 1, 4, [.int .i32 0], some (.int .i32), false, false⟩,
  ⟨.int .i32, 1, 4, [.int .i32 0], some (.int .i32), false, false⟩,
  ⟨.struct [(0, 12), (1, 12), (2, 141), (3, 142), (4, 5), (5, 5), (6, 143), (7, 144), (8, 145), (9, 146), (10, 147)], 11, 48, [.int .u64 0, .int .u64 0, .int .u32 0, .int .u8 0, .int .u8 0, .int .u8 0, .int .u8 0, .nilfunc, .nilptr, .int .i32 0, .int .i32 0], none, false, false⟩,
  ⟨.struct [(0, 12), (1, 12), (2, 141), (3, 142), (4, 5), (5, 5), (6, 143), (7, 144), (8, 145), (9, 146), (10, 147)], 11, 48, [.int .u64 0, .int .u64 0, .int .u32 0, .int .u8 0, .int .u8 0, .int .u8 0, .int .u8 0, .nilfunc, .nilptr, .int .i32 0, .int .i32 0], none, false, false⟩,
  ⟨.func, 1, 8, [.nilfunc], none, false, false⟩,
  ⟨.other, 1, 8, [.nilptr], none, false, false⟩]

end Go.Proofs.Ytcocpfgemdkkfaa

/-
  The table of this seat's types is its program's; printed by wip/tools/tok.py.
-/
set_option maxRecDepth 100000
set_option linter.unusedVariables false
namespace Go.Proofs.Ytcocpfgemdkkfaa
open Go Go.Yard

theorem ttLen : tt.length = 152 := by kernel_rfl
theorem und1 : (tt.at 1).d.Is Try.prog 1 := ⟨_, _, _, rfl⟩
theorem inf1 : InfoOk Try.prog tt 1 := ⟨Try.t1, by kernel_rfl, by kernel_rfl, by kernel_rfl, by kernel_rfl⟩
theorem und2 : (tt.at 2).d.Is Try.prog 2 := (by kernel_rfl : Try.prog.underlying 2 = some (.int .i64))
theorem inf2 : InfoOk Try.prog tt 2 := ⟨Try.t2, by kernel_rfl, by kernel_rfl, by kernel_rfl, by kernel_rfl⟩
theorem und3 : (tt.at 3).d.Is Try.prog 3 := (by kernel_rfl : Try.prog.underlying 3 = some (.int .i64))
theorem inf3 : InfoOk Try.prog tt 3 := ⟨Try.t3, by kernel_rfl, by kernel_rfl, by kernel_rfl, by kernel_rfl⟩
theorem und4 : (tt.at 4).d.Is Try.prog 4 := (by kernel_rfl : Try.prog.underlying 4 = some .bool)
theorem inf4 : InfoOk Try.prog tt 4 := ⟨Try.t4, by kernel_rfl, by kernel_rfl, by kernel_rfl, by kernel_rfl⟩
theorem und5 : (tt.at 5).d.Is Try.prog 5 := (by kernel_rfl : Try.prog.underlying 5 = some (.int .u8))
theorem inf5 : InfoOk Try.prog tt 5 := ⟨Try.t5, by kernel_rfl, by kernel_rfl, by kernel_rfl, by kernel_rfl⟩
theorem und6 : (tt.at 6).d.Is Try.prog 6 := (by kernel_rfl : Try.prog.underlying 6 = some (.int .u8))
theorem inf6 : InfoOk Try.prog tt 6 := ⟨Try.t6, by kernel_rfl, by kernel_rfl, by kernel_rfl, by kernel_rfl⟩
theorem und7 : (tt.at 7).d.Is Try.prog 7 := ⟨Try.prog.fieldsOf 7, by kernel_rfl, by kernel_rfl⟩
theorem inf7 : InfoOk Try.prog tt 7 := ⟨Try.t7, by kernel_rfl, by kernel_rfl, by kernel_rfl, by kernel_rfl⟩
theorem und8 : (tt.at 8).d.Is Try.prog 8 := ⟨Try.prog.fieldsOf 8, by kernel_rfl, by kernel_rfl⟩
theorem inf8 : InfoOk Try.prog tt 8 := ⟨Try.t8, by kernel_rfl, by kernel_rfl, by kernel_rfl, by kernel_rfl⟩
theorem und9 : (tt.at 9).d.Is Try.prog 9 := (by kernel_rfl : Try.prog.underlying 9 = some .string)
theorem inf9 : InfoOk Try.prog tt 9 := ⟨Try.t9, by kernel_rfl, by kernel_rfl, by kernel_rfl, by kernel_rfl⟩
theorem und10 : (tt.at 10).d.Is Try.prog 10 := (by kernel_rfl : Try.prog.underlying 10 = some .string)
theorem inf10 : InfoOk Try.prog tt 10 := ⟨Try.t10, by kernel_rfl, by kernel_rfl, by kernel_rfl, by kernel_rfl⟩
theorem und11 : (tt.at 11).d.Is Try.prog 11 := (by kernel_rfl : Try.prog.underlying 11 = some .string)
theorem inf11 : InfoOk Try.prog tt 11 := ⟨Try.t11, by kernel_rfl, by kernel_rfl, by kernel_rfl, by kernel_rfl⟩
theorem und12 : (tt.at 12).d.Is Try.prog 12 := (by kernel_rfl : Try.prog.underlying 12 = some (.int .u64))
theorem inf12 : InfoOk Try.prog tt 12 := ⟨Try.t12, by kernel_rfl, by kernel_rfl, by kernel_rfl, by kernel_rfl⟩
theorem und13 : (tt.at 13).d.Is Try.prog 13 := ⟨Try.prog.fieldsOf 13, by kernel_rfl, by kernel_rfl⟩
theorem inf13 : InfoOk Try.prog tt 13 := ⟨Try.t13, by kernel_rfl, by kernel_rfl, by kernel_rfl, by kernel_rfl⟩
theorem und14 : (tt.at 14).d.Is Try.prog 14 := ⟨Try.prog.fieldsOf 14, by kernel_rfl, by kernel_rfl⟩
theorem inf14 : InfoOk Try.prog tt 14 := ⟨Try.t14, by kernel_rfl, by kernel_rfl, by kernel_rfl, by kernel_rfl⟩
theorem und15 : (tt.at 15).d.Is Try.prog 15 := (by kernel_rfl : Try.prog.underlying 15 = some (.pointer 136))
theorem inf15 : InfoOk Try.prog tt 15 := ⟨Try.t15, by kernel_rfl, by kernel_rfl, by kernel_rfl, by kernel_rfl⟩
theorem und16 : (tt.at 16).d.Is Try.prog 16 := (by kernel_rfl : Try.prog.underlying 16 = some (.pointer 139))
theorem inf16 : InfoOk Try.prog tt 16 := ⟨Try.t16, by kernel_rfl, by kernel_rfl, by kernel_rfl, by kernel_rfl⟩
theorem und17 : (tt.at 17).d.Is Try.prog 17 := (by kernel_rfl : Try.prog.underlying 17 = some (.pointer 149))
theorem inf17 : InfoOk Try.prog tt 17 := ⟨Try.t17, by kernel_rfl, by kernel_rfl, by kernel_rfl, by kernel_rfl⟩
theorem und18 : (tt.at 18).d.Is Try.prog 18 := ⟨Try.prog.fieldsOf 18, by kernel_rfl, by kernel_rfl⟩
theorem inf18 : InfoOk Try.prog tt 18 := ⟨Try.t18, by kernel_rfl, by kernel_rfl, by kernel_rfl, by kernel_rfl⟩
theorem und19 : (tt.at 19).d.Is Try.prog 19 := ⟨Try.prog.fieldsOf 19, by kernel_rfl, by kernel_rfl⟩
theorem inf19 : InfoOk Try.prog tt 19 := ⟨Try.t19, by kernel_rfl, by kernel_rfl, by kernel_rfl, by kernel_rfl⟩
theorem und20 : (tt.at 20).d.Is Try.prog 20 := ⟨_, rfl⟩
theorem inf20 : InfoOk Try.prog tt 20 := ⟨Try.t20, by kernel_rfl, by kernel_rfl, by kernel_rfl, by kernel_rfl⟩
theorem und21 : (tt.at 21).d.Is Try.prog 21 := (by kernel_rfl : Try.prog.underlying 21 = some (.int .i32))
theorem inf21 : InfoOk Try.prog tt 21 := ⟨Try.t21, by kernel_rfl, by kernel_rfl, by kernel_rfl, by kernel_rfl⟩
theorem und22 : (tt.at 22).d.Is Try.prog 22 := (by kernel_rfl : Try.prog.underlying 22 = some (.slice 9))
theorem inf22 : InfoOk Try.prog tt 22 := ⟨Try.t22, by kernel_rfl, by kernel_rfl, by kernel_rfl, by kernel_rfl⟩
theorem und23 : (tt.at 23).d.Is Try.prog 23 := ⟨_, _, _, rfl⟩
theorem inf23 : InfoOk Try.prog tt 23 := ⟨Try.t23, by kernel_rfl, by kernel_rfl, by kernel_rfl, by kernel_rfl⟩
theorem und24 : (tt.at 24).d.Is Try.prog 24 := (by kernel_rfl : Try.prog.underlying 24 = some (.pointer 91))
theorem inf24 : InfoOk Try.prog tt 24 := ⟨Try.t24, by kernel_rfl, by kernel_rfl, by kernel_rfl, by kernel_rfl⟩
theorem und25 : (tt.at 25).d.Is Try.prog 25 := ⟨_, _, _, rfl⟩
theorem inf25 : InfoOk Try.prog tt 25 := ⟨Try.t25, by kernel_rfl, by kernel_rfl, by kernel_rfl, by kernel_rfl⟩
theorem und26 : (tt.at 26).d.Is Try.prog 26 := ⟨_, _, _, rfl⟩
theorem inf26 : InfoOk Try.prog tt 26 := ⟨Try.t26, by kernel_rfl, by kernel_rfl, by kernel_rfl, by kernel_rfl⟩
theorem und27 : (tt.at 27).d.Is Try.prog 27 := ⟨Try.prog.fieldsOf 27, by kernel_rfl, by kernel_rfl⟩
theorem inf27 : InfoOk Try.prog tt 27 := ⟨Try.t27, by kernel_rfl, by kernel_rfl, by kernel_rfl, by kernel_rfl⟩
theorem und28 : (tt.at 28).d.Is Try.prog 28 := ⟨Try.prog.fieldsOf 28, by kernel_rfl, by kernel_rfl⟩
theorem inf28 : InfoOk Try.prog tt 28 := ⟨Try.t28, by kernel_rfl, by kernel_rfl, by kernel_rfl, by kernel_rfl⟩
theorem und30 : (tt.at 30).d.Is Try.prog 30 := ⟨_, _, _, rfl⟩
theorem inf30 : InfoOk Try.prog tt 30 := ⟨Try.t30, by kernel_rfl, by kernel_rfl, by kernel_rfl, by kernel_rfl⟩
theorem und31 : (tt.at 31).d.Is Try.prog 31 := ⟨_, _, _, rfl⟩
theorem inf31 : InfoOk Try.prog tt 31 := ⟨Try.t31, by kernel_rfl, by kernel_rfl, by kernel_rfl, by kernel_rfl⟩
theorem und32 : (tt.at 32).d.Is Try.prog 32 := ⟨_, _, _, rfl⟩
theorem inf32 : InfoOk Try.prog tt 32 := ⟨Try.t32, by kernel_rfl, by kernel_rfl, by kernel_rfl, by kernel_rfl⟩
theorem und33 : (tt.at 33).d.Is Try.prog 33 := (by kernel_rfl : Try.prog.underlying 33 = some (.slice 28))
theorem inf33 : InfoOk Try.prog tt 33 := ⟨Try.t33, by kernel_rfl, by kernel_rfl, by kernel_rfl, by kernel_rfl⟩
theorem und34 : (tt.at 34).d.Is Try.prog 34 := ⟨_, _, _, rfl⟩
theorem inf34 : InfoOk Try.prog tt 34 := ⟨Try.t34, by kernel_rfl, by kernel_rfl, by kernel_rfl, by kernel_rfl⟩
theorem und35 : (tt.at 35).d.Is Try.prog 35 := ⟨_, _, _, rfl⟩
theorem inf35 : InfoOk Try.prog tt 35 := ⟨Try.t35, by kernel_rfl, by kernel_rfl, by kernel_rfl, by kernel_rfl⟩
theorem und36 : (tt.at 36).d.Is Try.prog 36 := ⟨_, _, _, rfl⟩
theorem inf36 : InfoOk Try.prog tt 36 := ⟨Try.t36, by kernel_rfl, by kernel_rfl, by kernel_rfl, by kernel_rfl⟩
theorem und37 : (tt.at 37).d.Is Try.prog 37 := ⟨_, _, _, rfl⟩
theorem inf37 : InfoOk Try.prog tt 37 := ⟨Try.t37, by kernel_rfl, by kernel_rfl, by kernel_rfl, by kernel_rfl⟩
theorem und38 : (tt.at 38).d.Is Try.prog 38 := (by kernel_rfl : Try.prog.underlying 38 = some (.slice 45))
theorem inf38 : InfoOk Try.prog tt 38 := ⟨Try.t38, by kernel_rfl, by kernel_rfl, by kernel_rfl, by kernel_rfl⟩
theorem und39 : (tt.at 39).d.Is Try.prog 39 := (by kernel_rfl : Try.prog.underlying 39 = some (.slice 42))
theorem inf39 : InfoOk Try.prog tt 39 := ⟨Try.t39, by kernel_rfl, by kernel_rfl, by kernel_rfl, by kernel_rfl⟩
theorem und40 : (tt.at 40).d.Is Try.prog 40 := (by kernel_rfl : Try.prog.underlying 40 = some (.slice 3))
theorem inf40 : InfoOk Try.prog tt 40 := ⟨Try.t40, by kernel_rfl, by kernel_rfl, by kernel_rfl, by kernel_rfl⟩
theorem und41 : (tt.at 41).d.Is Try.prog 41 := ⟨Try.prog.fieldsOf 41, by kernel_rfl, by kernel_rfl⟩
theorem inf41 : InfoOk Try.prog tt 41 := ⟨Try.t41, by kernel_rfl, by kernel_rfl, by kernel_rfl, by kernel_rfl⟩
theorem und42 : (tt.at 42).d.Is Try.prog 42 := ⟨Try.prog.fieldsOf 42, by kernel_rfl, by kernel_rfl⟩
theorem inf42 : InfoOk Try.prog tt 42 := ⟨Try.t42, by kernel_rfl, by kernel_rfl, by kernel_rfl, by kernel_rfl⟩
theorem und43 : (tt.at 43).d.Is Try.prog 43 := (by kernel_rfl : Try.prog.underlying 43 = some (.slice 49))
theorem inf43 : InfoOk Try.prog tt 43 := ⟨Try.t43, by kernel_rfl, by kernel_rfl, by kernel_rfl, by kernel_rfl⟩
theorem und44 : (tt.at 44).d.Is Try.prog 44 := ⟨Try.prog.fieldsOf 44, by kernel_rfl, by kernel_rfl⟩
theorem inf44 : InfoOk Try.prog tt 44 := ⟨Try.t44, by kernel_rfl, by kernel_rfl, by kernel_rfl, by kernel_rfl⟩
theorem und45 : (tt.at 45).d.Is Try.prog 45 := ⟨Try.prog.fieldsOf 45, by kernel_rfl, by kernel_rfl⟩
theorem inf45 : InfoOk Try.prog tt 45 := ⟨Try.t45, by kernel_rfl, by kernel_rfl, by kernel_rfl, by kernel_rfl⟩
theorem und46 : (tt.at 46).d.Is Try.prog 46 := ⟨Try.prog.fieldsOf 46, by kernel_rfl, by kernel_rfl⟩
theorem inf46 : InfoOk Try.prog tt 46 := ⟨Try.t46, by kernel_rfl, by kernel_rfl, by kernel_rfl, by kernel_rfl⟩
theorem und47 : (tt.at 47).d.Is Try.prog 47 := ⟨Try.prog.fieldsOf 47, by kernel_rfl, by kernel_rfl⟩
theorem inf47 : InfoOk Try.prog tt 47 := ⟨Try.t47, by kernel_rfl, by kernel_rfl, by kernel_rfl, by kernel_rfl⟩
theorem und48 : (tt.at 48).d.Is Try.prog 48 := ⟨Try.prog.fieldsOf 48, by kernel_rfl, by kernel_rfl⟩
theorem inf48 : InfoOk Try.prog tt 48 := ⟨Try.t48, by kernel_rfl, by kernel_rfl, by kernel_rfl, by kernel_rfl⟩
theorem und49 : (tt.at 49).d.Is Try.prog 49 := ⟨Try.prog.fieldsOf 49, by kernel_rfl, by kernel_rfl⟩
theorem inf49 : InfoOk Try.prog tt 49 := ⟨Try.t49, by kernel_rfl, by kernel_rfl, by kernel_rfl, by kernel_rfl⟩
theorem und50 : (tt.at 50).d.Is Try.prog 50 := ⟨_, _, _, rfl⟩
theorem inf50 : InfoOk Try.prog tt 50 := ⟨Try.t50, by kernel_rfl, by kernel_rfl, by kernel_rfl, by kernel_rfl⟩
theorem und51 : (tt.at 51).d.Is Try.prog 51 := ⟨_, _, _, rfl⟩
theorem inf51 : InfoOk Try.prog tt 51 := ⟨Try.t51, by kernel_rfl, by kernel_rfl, by kernel_rfl, by kernel_rfl⟩
theorem und52 : (tt.at 52).d.Is Try.prog 52 := ⟨_, _, _, rfl⟩
theorem inf52 : InfoOk Try.prog tt 52 := ⟨Try.t52, by kernel_rfl, by kernel_rfl, by kernel_rfl, by kernel_rfl⟩
theorem und53 : (tt.at 53).d.Is Try.prog 53 := ⟨_, _, _, rfl⟩
theorem inf53 : InfoOk Try.prog tt 53 := ⟨Try.t53, by kernel_rfl, by kernel_rfl, by kernel_rfl, by kernel_rfl⟩
theorem und54 : (tt.at 54).d.Is Try.prog 54 := ⟨_, _, _, rfl⟩
theorem inf54 : InfoOk Try.prog tt 54 := ⟨Try.t54, by kernel_rfl, by kernel_rfl, by kernel_rfl, by kernel_rfl⟩
theorem und56 : (tt.at 56).d.Is Try.prog 56 := ⟨_, _, _, rfl⟩
theorem inf56 : InfoOk Try.prog tt 56 := ⟨Try.t56, by kernel_rfl, by kernel_rfl, by kernel_rfl, by kernel_rfl⟩
theorem und57 : (tt.at 57).d.Is Try.prog 57 := ⟨_, _, _, rfl⟩
theorem inf57 : InfoOk Try.prog tt 57 := ⟨Try.t57, by kernel_rfl, by kernel_rfl, by kernel_rfl, by kernel_rfl⟩
theorem und58 : (tt.at 58).d.Is Try.prog 58 := ⟨_, _, _, rfl⟩
theorem inf58 : InfoOk Try.prog tt 58 := ⟨Try.t58, by kernel_rfl, by kernel_rfl, by kernel_rfl, by kernel_rfl⟩
theorem und60 : (tt.at 60).d.Is Try.prog 60 := ⟨_, _, _, rfl⟩
theorem inf60 : InfoOk Try.prog tt 60 := ⟨Try.t60, by kernel_rfl, by kernel_rfl, by kernel_rfl, by kernel_rfl⟩
theorem und62 : (tt.at 62).d.Is Try.prog 62 := ⟨_, _, _, rfl⟩
theorem inf62 : InfoOk Try.prog tt 62 := ⟨Try.t62, by kernel_rfl, by kernel_rfl, by kernel_rfl, by kernel_rfl⟩
theorem und64 : (tt.at 64).d.Is Try.prog 64 := ⟨_, _, _, rfl⟩
theorem inf64 : InfoOk Try.prog tt 64 := ⟨Try.t64, by kernel_rfl, by kernel_rfl, by kernel_rfl, by kernel_rfl⟩
theorem und66 : (tt.at 66).d.Is Try.prog 66 := ⟨_, _, _, rfl⟩
theorem inf66 : InfoOk Try.prog tt 66 := ⟨Try.t66, by kernel_rfl, by kernel_rfl, by kernel_rfl, by kernel_rfl⟩
theorem und67 : (tt.at 67).d.Is Try.prog 67 := ⟨_, _, _, rfl⟩
theorem inf67 : InfoOk Try.prog tt 67 := ⟨Try.t67, by kernel_rfl, by kernel_rfl, by kernel_rfl, by kernel_rfl⟩
theorem und68 : (tt.at 68).d.Is Try.prog 68 := ⟨_, _, _, rfl⟩
theorem inf68 : InfoOk Try.prog tt 68 := ⟨Try.t68, by kernel_rfl, by kernel_rfl, by kernel_rfl, by kernel_rfl⟩
theorem und69 : (tt.at 69).d.Is Try.prog 69 := ⟨_, _, _, rfl⟩
theorem inf69 : InfoOk Try.prog tt 69 := ⟨Try.t69, by kernel_rfl, by kernel_rfl, by kernel_rfl, by kernel_rfl⟩
theorem und70 : (tt.at 70).d.Is Try.prog 70 := ⟨_, _, _, rfl⟩
theorem inf70 : InfoOk Try.prog tt 70 := ⟨Try.t70, by kernel_rfl, by kernel_rfl, by kernel_rfl, by kernel_rfl⟩
theorem und71 : (tt.at 71).d.Is Try.prog 71 := ⟨_, _, _, rfl⟩
theorem inf71 : InfoOk Try.prog tt 71 := ⟨Try.t71, by kernel_rfl, by kernel_rfl, by kernel_rfl, by kernel_rfl⟩
theorem und72 : (tt.at 72).d.Is Try.prog 72 := ⟨_, _, _, rfl⟩
theorem inf72 : InfoOk Try.prog tt 72 := ⟨Try.t72, by kernel_rfl, by kernel_rfl, by kernel_rfl, by kernel_rfl⟩
theorem und73 : (tt.at 73).d.Is Try.prog 73 := ⟨_, _, _, rfl⟩
theorem inf73 : InfoOk Try.prog tt 73 := ⟨Try.t73, by kernel_rfl, by kernel_rfl, by kernel_rfl, by kernel_rfl⟩
theorem und74 : (tt.at 74).d.Is Try.prog 74 := ⟨_, _, _, rfl⟩
theorem inf74 : InfoOk Try.prog tt 74 := ⟨Try.t74, by kernel_rfl, by kernel_rfl, by kernel_rfl, by kernel_rfl⟩
theorem und75 : (tt.at 75).d.Is Try.prog 75 := ⟨_, _, _, rfl⟩
theorem inf75 : InfoOk Try.prog tt 75 := ⟨Try.t75, by kernel_rfl, by kernel_rfl, by kernel_rfl, by kernel_rfl⟩
theorem und76 : (tt.at 76).d.Is Try.prog 76 := ⟨_, _, _, rfl⟩
theorem inf76 : InfoOk Try.prog tt 76 := ⟨Try.t76, by kernel_rfl, by kernel_rfl, by kernel_rfl, by kernel_rfl⟩
theorem und77 : (tt.at 77).d.Is Try.prog 77 := (by kernel_rfl : Try.prog.underlying 77 = some (.slice 81))
theorem inf77 : InfoOk Try.prog tt 77 := ⟨Try.t77, by kernel_rfl, by kernel_rfl, by kernel_rfl, by kernel_rfl⟩
theorem und78 : (tt.at 78).d.Is Try.prog 78 := (by kernel_rfl : Try.prog.underlying 78 = some (.pointer 120))
theorem inf78 : InfoOk Try.prog tt 78 := ⟨Try.t78, by kernel_rfl, by kernel_rfl, by kernel_rfl, by kernel_rfl⟩
theorem und79 : (tt.at 79).d.Is Try.prog 79 := ⟨_, _, _, rfl⟩
theorem inf79 : InfoOk Try.prog tt 79 := ⟨Try.t79, by kernel_rfl, by kernel_rfl, by kernel_rfl, by kernel_rfl⟩
theorem und80 : (tt.at 80).d.Is Try.prog 80 := ⟨Try.prog.fieldsOf 80, by kernel_rfl, by kernel_rfl⟩
theorem inf80 : InfoOk Try.prog tt 80 := ⟨Try.t80, by kernel_rfl, by kernel_rfl, by kernel_rfl, by kernel_rfl⟩
theorem und81 : (tt.at 81).d.Is Try.prog 81 := ⟨Try.prog.fieldsOf 81, by kernel_rfl, by kernel_rfl⟩
theorem inf81 : InfoOk Try.prog tt 81 := ⟨Try.t81, by kernel_rfl, by kernel_rfl, by kernel_rfl, by kernel_rfl⟩
theorem und82 : (tt.at 82).d.Is Try.prog 82 := ⟨_, _, _, rfl⟩
theorem inf82 : InfoOk Try.prog tt 82 := ⟨Try.t82, by kernel_rfl, by kernel_rfl, by kernel_rfl, by kernel_rfl⟩
theorem und83 : (tt.at 83).d.Is Try.prog 83 := (by kernel_rfl : Try.prog.underlying 83 = some (.map 9 4))
theorem inf83 : InfoOk Try.prog tt 83 := ⟨Try.t83, by kernel_rfl, by kernel_rfl, by kernel_rfl, by kernel_rfl⟩
theorem und84 : (tt.at 84).d.Is Try.prog 84 := ⟨_, _, _, rfl⟩
theorem inf84 : InfoOk Try.prog tt 84 := ⟨Try.t84, by kernel_rfl, by kernel_rfl, by kernel_rfl, by kernel_rfl⟩
theorem und85 : (tt.at 85).d.Is Try.prog 85 := ⟨Try.prog.fieldsOf 85, by kernel_rfl, by kernel_rfl⟩
theorem inf85 : InfoOk Try.prog tt 85 := ⟨Try.t85, by kernel_rfl, by kernel_rfl, by kernel_rfl, by kernel_rfl⟩
theorem und86 : (tt.at 86).d.Is Try.prog 86 := ⟨Try.prog.fieldsOf 86, by kernel_rfl, by kernel_rfl⟩
theorem inf86 : InfoOk Try.prog tt 86 := ⟨Try.t86, by kernel_rfl, by kernel_rfl, by kernel_rfl, by kernel_rfl⟩
theorem und87 : (tt.at 87).d.Is Try.prog 87 := ⟨Try.prog.fieldsOf 87, by kernel_rfl, by kernel_rfl⟩
theorem inf87 : InfoOk Try.prog tt 87 := ⟨Try.t87, by kernel_rfl, by kernel_rfl, by kernel_rfl, by kernel_rfl⟩
theorem und88 : (tt.at 88).d.Is Try.prog 88 := ⟨Try.prog.fieldsOf 88, by kernel_rfl, by kernel_rfl⟩
theorem inf88 : InfoOk Try.prog tt 88 := ⟨Try.t88, by kernel_rfl, by kernel_rfl, by kernel_rfl, by kernel_rfl⟩
theorem und89 : (tt.at 89).d.Is Try.prog 89 := ⟨Try.prog.fieldsOf 89, by kernel_rfl, by kernel_rfl⟩
theorem inf89 : InfoOk Try.prog tt 89 := ⟨Try.t89, by kernel_rfl, by kernel_rfl, by kernel_rfl, by kernel_rfl⟩
theorem und90 : (tt.at 90).d.Is Try.prog 90 := ⟨Try.prog.fieldsOf 90, by kernel_rfl, by kernel_rfl⟩
theorem inf90 : InfoOk Try.prog tt 90 := ⟨Try.t90, by kernel_rfl, by kernel_rfl, by kernel_rfl, by kernel_rfl⟩
theorem und91 : (tt.at 91).d.Is Try.prog 91 := ⟨Try.prog.fieldsOf 91, by kernel_rfl, by kernel_rfl⟩
theorem inf91 : InfoOk Try.prog tt 91 := ⟨Try.t91, by kernel_rfl, by kernel_rfl, by kernel_rfl, by kernel_rfl⟩
theorem und92 : (tt.at 92).d.Is Try.prog 92 := ⟨_, _, _, rfl⟩
theorem inf92 : InfoOk Try.prog tt 92 := ⟨Try.t92, by kernel_rfl, by kernel_rfl, by kernel_rfl, by kernel_rfl⟩
theorem und93 : (tt.at 93).d.Is Try.prog 93 := ⟨_, _, _, rfl⟩
theorem inf93 : InfoOk Try.prog tt 93 := ⟨Try.t93, by kernel_rfl, by kernel_rfl, by kernel_rfl, by kernel_rfl⟩
theorem und94 : (tt.at 94).d.Is Try.prog 94 := (by kernel_rfl : Try.prog.underlying 94 = some (.pointer 28))
theorem inf94 : InfoOk Try.prog tt 94 := ⟨Try.t94, by kernel_rfl, by kernel_rfl, by kernel_rfl, by kernel_rfl⟩
theorem und95 : (tt.at 95).d.Is Try.prog 95 := ⟨_, _, _, rfl⟩
theorem inf95 : InfoOk Try.prog tt 95 := ⟨Try.t95, by kernel_rfl, by kernel_rfl, by kernel_rfl, by kernel_rfl⟩
theorem und96 : (tt.at 96).d.Is Try.prog 96 := ⟨_, _, _, rfl⟩
theorem inf96 : InfoOk Try.prog tt 96 := ⟨Try.t96, by kernel_rfl, by kernel_rfl, by kernel_rfl, by kernel_rfl⟩
theorem und97 : (tt.at 97).d.Is Try.prog 97 := ⟨_, _, _, rfl⟩
theorem inf97 : InfoOk Try.prog tt 97 := ⟨Try.t97, by kernel_rfl, by kernel_rfl, by kernel_rfl, by kernel_rfl⟩
theorem und98 : (tt.at 98).d.Is Try.prog 98 := ⟨_, _, _, rfl⟩
theorem inf98 : InfoOk Try.prog tt 98 := ⟨Try.t98, by kernel_rfl, by kernel_rfl, by kernel_rfl, by kernel_rfl⟩
theorem und99 : (tt.at 99).d.Is Try.prog 99 := (by kernel_rfl : Try.prog.underlying 99 = some (.slice 5))
theorem inf99 : InfoOk Try.prog tt 99 := ⟨Try.t99, by kernel_rfl, by kernel_rfl, by kernel_rfl, by kernel_rfl⟩
theorem und100 : (tt.at 100).d.Is Try.prog 100 := ⟨_, _, _, rfl⟩
theorem inf100 : InfoOk Try.prog tt 100 := ⟨Try.t100, by kernel_rfl, by kernel_rfl, by kernel_rfl, by kernel_rfl⟩
theorem und101 : (tt.at 101).d.Is Try.prog 101 := ⟨_, _, _, rfl⟩
theorem inf101 : InfoOk Try.prog tt 101 := ⟨Try.t101, by kernel_rfl, by kernel_rfl, by kernel_rfl, by kernel_rfl⟩
theorem und102 : (tt.at 102).d.Is Try.prog 102 := ⟨_, _, _, rfl⟩
theorem inf102 : InfoOk Try.prog tt 102 := ⟨Try.t102, by kernel_rfl, by kernel_rfl, by kernel_rfl, by kernel_rfl⟩
theorem und103 : (tt.at 103).d.Is Try.prog 103 := ⟨_, _, _, rfl⟩
theorem inf103 : InfoOk Try.prog tt 103 := ⟨Try.t103, by kernel_rfl, by kernel_rfl, by kernel_rfl, by kernel_rfl⟩
theorem und104 : (tt.at 104).d.Is Try.prog 104 := ⟨_, _, _, rfl⟩
theorem inf104 : InfoOk Try.prog tt 104 := ⟨Try.t104, by kernel_rfl, by kernel_rfl, by kernel_rfl, by kernel_rfl⟩
theorem und105 : (tt.at 105).d.Is Try.prog 105 := ⟨_, _, _, rfl⟩
theorem inf105 : InfoOk Try.prog tt 105 := ⟨Try.t105, by kernel_rfl, by kernel_rfl, by kernel_rfl, by kernel_rfl⟩
theorem und106 : (tt.at 106).d.Is Try.prog 106 := ⟨_, _, _, rfl⟩
theorem inf106 : InfoOk Try.prog tt 106 := ⟨Try.t106, by kernel_rfl, by kernel_rfl, by kernel_rfl, by kernel_rfl⟩
theorem und107 : (tt.at 107).d.Is Try.prog 107 := ⟨_, _, _, rfl⟩
theorem inf107 : InfoOk Try.prog tt 107 := ⟨Try.t107, by kernel_rfl, by kernel_rfl, by kernel_rfl, by kernel_rfl⟩
theorem und108 : (tt.at 108).d.Is Try.prog 108 := ⟨_, _, _, rfl⟩
theorem inf108 : InfoOk Try.prog tt 108 := ⟨Try.t108, by kernel_rfl, by kernel_rfl, by kernel_rfl, by kernel_rfl⟩
theorem und109 : (tt.at 109).d.Is Try.prog 109 := ⟨_, _, _, rfl⟩
theorem inf109 : InfoOk Try.prog tt 109 := ⟨Try.t109, by kernel_rfl, by kernel_rfl, by kernel_rfl, by kernel_rfl⟩
theorem und110 : (tt.at 110).d.Is Try.prog 110 := ⟨_, _, _, rfl⟩
theorem inf110 : InfoOk Try.prog tt 110 := ⟨Try.t110, by kernel_rfl, by kernel_rfl, by kernel_rfl, by kernel_rfl⟩
theorem und111 : (tt.at 111).d.Is Try.prog 111 := ⟨_, _, _, rfl⟩
theorem inf111 : InfoOk Try.prog tt 111 := ⟨Try.t111, by kernel_rfl, by kernel_rfl, by kernel_rfl, by kernel_rfl⟩
theorem und112 : (tt.at 112).d.Is Try.prog 112 := ⟨_, _, _, rfl⟩
theorem inf112 : InfoOk Try.prog tt 112 := ⟨Try.t112, by kernel_rfl, by kernel_rfl, by kernel_rfl, by kernel_rfl⟩
theorem und113 : (tt.at 113).d.Is Try.prog 113 := ⟨_, _, _, rfl⟩
theorem inf113 : InfoOk Try.prog tt 113 := ⟨Try.t113, by kernel_rfl, by kernel_rfl, by kernel_rfl, by kernel_rfl⟩
theorem und114 : (tt.at 114).d.Is Try.prog 114 := ⟨_, _, _, rfl⟩
theorem inf114 : InfoOk Try.prog tt 114 := ⟨Try.t114, by kernel_rfl, by kernel_rfl, by kernel_rfl, by kernel_rfl⟩
theorem und115 : (tt.at 115).d.Is Try.prog 115 := ⟨_, _, _, rfl⟩
theorem inf115 : InfoOk Try.prog tt 115 := ⟨Try.t115, by kernel_rfl, by kernel_rfl, by kernel_rfl, by kernel_rfl⟩
theorem und117 : (tt.at 117).d.Is Try.prog 117 := ⟨_, _, _, rfl⟩
theorem inf117 : InfoOk Try.prog tt 117 := ⟨Try.t117, by kernel_rfl, by kernel_rfl, by kernel_rfl, by kernel_rfl⟩
theorem und118 : (tt.at 118).d.Is Try.prog 118 := ⟨_, _, _, rfl⟩
theorem inf118 : InfoOk Try.prog tt 118 := ⟨Try.t118, by kernel_rfl, by kernel_rfl, by kernel_rfl, by kernel_rfl⟩
theorem und119 : (tt.at 119).d.Is Try.prog 119 := ⟨Try.prog.fieldsOf 119, by kernel_rfl, by kernel_rfl⟩
theorem inf119 : InfoOk Try.prog tt 119 := ⟨Try.t119, by kernel_rfl, by kernel_rfl, by kernel_rfl, by kernel_rfl⟩
theorem und120 : (tt.at 120).d.Is Try.prog 120 := ⟨Try.prog.fieldsOf 120, by kernel_rfl, by kernel_rfl⟩
theorem inf120 : InfoOk Try.prog tt 120 := ⟨Try.t120, by kernel_rfl, by kernel_rfl, by kernel_rfl, by kernel_rfl⟩
theorem und121 : (tt.at 121).d.Is Try.prog 121 := (by kernel_rfl : Try.prog.underlying 121 = some (.pointer 89))
theorem inf121 : InfoOk Try.prog tt 121 := ⟨Try.t121, by kernel_rfl, by kernel_rfl, by kernel_rfl, by kernel_rfl⟩
theorem und122 : (tt.at 122).d.Is Try.prog 122 := ⟨_, _, _, rfl⟩
theorem inf122 : InfoOk Try.prog tt 122 := ⟨Try.t122, by kernel_rfl, by kernel_rfl, by kernel_rfl, by kernel_rfl⟩
theorem und123 : (tt.at 123).d.Is Try.prog 123 := (by kernel_rfl : Try.prog.underlying 123 = some (.pointer 2))
theorem inf123 : InfoOk Try.prog tt 123 := ⟨Try.t123, by kernel_rfl, by kernel_rfl, by kernel_rfl, by kernel_rfl⟩
theorem und124 : (tt.at 124).d.Is Try.prog 124 := ⟨_, _, _, rfl⟩
theorem inf124 : InfoOk Try.prog tt 124 := ⟨Try.t124, by kernel_rfl, by kernel_rfl, by kernel_rfl, by kernel_rfl⟩
theorem und125 : (tt.at 125).d.Is Try.prog 125 := (by kernel_rfl : Try.prog.underlying 125 = some (.slice 21))
theorem inf125 : InfoOk Try.prog tt 125 := ⟨Try.t125, by kernel_rfl, by kernel_rfl, by kernel_rfl, by kernel_rfl⟩
theorem und126 : (tt.at 126).d.Is Try.prog 126 := ⟨_, _, _, rfl⟩
theorem inf126 : InfoOk Try.prog tt 126 := ⟨Try.t126, by kernel_rfl, by kernel_rfl, by kernel_rfl, by kernel_rfl⟩
theorem und127 : (tt.at 127).d.Is Try.prog 127 := ⟨_, _, _, rfl⟩
theorem inf127 : InfoOk Try.prog tt 127 := ⟨Try.t127, by kernel_rfl, by kernel_rfl, by kernel_rfl, by kernel_rfl⟩
theorem und128 : (tt.at 128).d.Is Try.prog 128 := ⟨_, _, _, rfl⟩
theorem inf128 : InfoOk Try.prog tt 128 := ⟨Try.t128, by kernel_rfl, by kernel_rfl, by kernel_rfl, by kernel_rfl⟩
theorem und129 : (tt.at 129).d.Is Try.prog 129 := ⟨_, _, _, rfl⟩
theorem inf129 : InfoOk Try.prog tt 129 := ⟨Try.t129, by kernel_rfl, by kernel_rfl, by kernel_rfl, by kernel_rfl⟩
theorem und130 : (tt.at 130).d.Is Try.prog 130 := ⟨_, _, _, rfl⟩
theorem inf130 : InfoOk Try.prog tt 130 := ⟨Try.t130, by kernel_rfl, by kernel_rfl, by kernel_rfl, by kernel_rfl⟩
theorem und131 : (tt.at 131).d.Is Try.prog 131 := ⟨_, _, _, rfl⟩
theorem inf131 : InfoOk Try.prog tt 131 := ⟨Try.t131, by kernel_rfl, by kernel_rfl, by kernel_rfl, by kernel_rfl⟩
theorem und132 : (tt.at 132).d.Is Try.prog 132 := ⟨_, _, _, rfl⟩
theorem inf132 : InfoOk Try.prog tt 132 := ⟨Try.t132, by kernel_rfl, by kernel_rfl, by kernel_rfl, by kernel_rfl⟩
theorem und133 : (tt.at 133).d.Is Try.prog 133 := ⟨_, _, _, rfl⟩
theorem inf133 : InfoOk Try.prog tt 133 := ⟨Try.t133, by kernel_rfl, by kernel_rfl, by kernel_rfl, by kernel_rfl⟩
theorem und134 : (tt.at 134).d.Is Try.prog 134 := ⟨_, _, _, rfl⟩
theorem inf134 : InfoOk Try.prog tt 134 := ⟨Try.t134, by kernel_rfl, by kernel_rfl, by kernel_rfl, by kernel_rfl⟩
theorem und135 : (tt.at 135).d.Is Try.prog 135 := ⟨Try.prog.fieldsOf 135, by kernel_rfl, by kernel_rfl⟩
theorem inf135 : InfoOk Try.prog tt 135 := ⟨Try.t135, by kernel_rfl, by kernel_rfl, by kernel_rfl, by kernel_rfl⟩
theorem und136 : (tt.at 136).d.Is Try.prog 136 := ⟨Try.prog.fieldsOf 136, by kernel_rfl, by kernel_rfl⟩
theorem inf136 : InfoOk Try.prog tt 136 := ⟨Try.t136, by kernel_rfl, by kernel_rfl, by kernel_rfl, by kernel_rfl⟩
theorem und137 : (tt.at 137).d.Is Try.prog 137 := (by kernel_rfl : Try.prog.underlying 137 = some (.array 0 16))
theorem inf137 : InfoOk Try.prog tt 137 := ⟨Try.t137, by kernel_rfl, by kernel_rfl, by kernel_rfl, by kernel_rfl⟩
theorem und138 : (tt.at 138).d.Is Try.prog 138 := ⟨Try.prog.fieldsOf 138, by kernel_rfl, by kernel_rfl⟩
theorem inf138 : InfoOk Try.prog tt 138 := ⟨Try.t138, by kernel_rfl, by kernel_rfl, by kernel_rfl, by kernel_rfl⟩
theorem und139 : (tt.at 139).d.Is Try.prog 139 := ⟨Try.prog.fieldsOf 139, by kernel_rfl, by kernel_rfl⟩
theorem inf139 : InfoOk Try.prog tt 139 := ⟨Try.t139, by kernel_rfl, by kernel_rfl, by kernel_rfl, by kernel_rfl⟩
theorem und140 : (tt.at 140).d.Is Try.prog 140 := ⟨_, _, _, rfl⟩
theorem inf140 : InfoOk Try.prog tt 140 := ⟨Try.t140, by kernel_rfl, by kernel_rfl, by kernel_rfl, by kernel_rfl⟩
theorem und141 : (tt.at 141).d.Is Try.prog 141 := (by kernel_rfl : Try.prog.underlying 141 = some (.int .u32))
theorem inf141 : InfoOk Try.prog tt 141 := ⟨Try.t141, by kernel_rfl, by kernel_rfl, by kernel_rfl, by kernel_rfl⟩
theorem und142 : (tt.at 142).d.Is Try.prog 142 := (by kernel_rfl : Try.prog.underlying 142 = some (.int .u8))
theorem inf142 : InfoOk Try.prog tt 142 := ⟨Try.t142, by kernel_rfl, by kernel_rfl, by kernel_rfl, by kernel_rfl⟩
theorem und143 : (tt.at 143).d.Is Try.prog 143 := (by kernel_rfl : Try.prog.underlying 143 = some (.int .u8))
theorem inf143 : InfoOk Try.prog tt 143 := ⟨Try.t143, by kernel_rfl, by kernel_rfl, by kernel_rfl, by kernel_rfl⟩
theorem und144 : (tt.at 144).d.Is Try.prog 144 := ⟨_, _, _, rfl⟩
theorem inf144 : InfoOk Try.prog tt 144 := ⟨Try.t144, by kernel_rfl, by kernel_rfl, by kernel_rfl, by kernel_rfl⟩
theorem und145 : (tt.at 145).d.Is Try.prog 145 := (by kernel_rfl : Try.prog.underlying 145 = some (.pointer 5))
theorem inf145 : InfoOk Try.prog tt 145 := ⟨Try.t145, by kernel_rfl, by kernel_rfl, by kernel_rfl, by kernel_rfl⟩
theorem und146 : (tt.at 146).d.Is Try.prog 146 := (by kernel_rfl : Try.prog.underlying 146 = some (.int .i32))
theorem inf146 : InfoOk Try.prog tt 146 := ⟨Try.t146, by kernel_rfl, by kernel_rfl, by kernel_rfl, by kernel_rfl⟩
theorem und147 : (tt.at 147).d.Is Try.prog 147 := (by kernel_rfl : Try.prog.underlying 147 = some (.int .i32))
theorem inf147 : InfoOk Try.prog tt 147 := ⟨Try.t147, by kernel_rfl, by kernel_rfl, by kernel_rfl, by kernel_rfl⟩
theorem und148 : (tt.at 148).d.Is Try.prog 148 := ⟨Try.prog.fieldsOf 148, by kernel_rfl, by kernel_rfl⟩
theorem inf148 : InfoOk Try.prog tt 148 := ⟨Try.t148, by kernel_rfl, by kernel_rfl, by kernel_rfl, by kernel_rfl⟩
theorem und149 : (tt.at 149).d.Is Try.prog 149 := ⟨Try.prog.fieldsOf 149, by kernel_rfl, by kernel_rfl⟩
theorem inf149 : InfoOk Try.prog tt 149 := ⟨Try.t149, by kernel_rfl, by kernel_rfl, by kernel_rfl, by kernel_rfl⟩
theorem und150 : (tt.at 150).d.Is Try.prog 150 := ⟨_, _, _, rfl⟩
theorem inf150 : InfoOk Try.prog tt 150 := ⟨Try.t150, by kernel_rfl, by kernel_rfl, by kernel_rfl, by kernel_rfl⟩
theorem TTund : ∀ t, (tt.at t).d.Is Try.prog t := fun t => match t with
  | 0 => trivial
  | 1 => und1
  | 2 => und2
  | 3 => und3
  | 4 => und4
  | 5 => und5
  | 6 => und6
  | 7 => und7
  | 8 => und8
  | 9 => und9
  | 10 => und10
  | 11 => und11
  | 12 => und12
  | 13 => und13
  | 14 => und14
  | 15 => und15
  | 16 => und16
  | 17 => und17
  | 18 => und18
  | 19 => und19
  | 20 => und20
  | 21 => und21
  | 22 => und22
  | 23 => und23
  | 24 => und24
  | 25 => und25
  | 26 => und26
  | 27 => und27
  | 28 => und28
  | 29 => trivial
  | 30 => und30
  | 31 => und31
  | 32 => und32
  | 33 => und33
  | 34 => und34
  | 35 => und35
  | 36 => und36
  | 37 => und37
  | 38 => und38
  | 39 => und39
  | 40 => und40
  | 41 => und41
  | 42 => und42
  | 43 => und43
  | 44 => und44
  | 45 => und45
  | 46 => und46
  | 47 => und47
  | 48 => und48
  | 49 => und49
  | 50 => und50
  | 51 => und51
  | 52 => und52
  | 53 => und53
  | 54 => und54
  | 55 => trivial
  | 56 => und56
  | 57 => und57
  | 58 => und58
  | 59 => trivial
  | 60 => und60
  | 61 => trivial
  | 62 => und62
  | 63 => trivial
  | 64 => und64
  | 65 => trivial
  | 66 => und66
  | 67 => und67
  | 68 => und68
  | 69 => und69
  | 70 => und70
  | 71 => und71
  | 72 => und72
  | 73 => und73
  | 74 => und74
  | 75 => und75
  | 76 => und76
  | 77 => und77
  | 78 => und78
  | 79 => und79
  | 80 => und80
  | 81 => und81
  | 82 => und82
  | 83 => und83
  | 84 => und84
  | 85 => und85
  | 86 => und86
  | 87 => und87
  | 88 => und88
  | 89 => und89
  | 90 => und90
  | 91 => und91
  | 92 => und92
  | 93 => und93
  | 94 => und94
  | 95 => und95
  | 96 => und96
  | 97 => und97
  | 98 => und98
  | 99 => und99
  | 100 => und100
  | 101 => und101
  | 102 => und102
  | 103 => und103
  | 104 => und104
  | 105 => und105
  | 106 => und106
  | 107 => und107
  | 108 => und108
  | 109 => und109
  | 110 => und110
  | 111 => und111
  | 112 => und112
  | 113 => und113
  | 114 => und114
  | 115 => und115
  | 116 => trivial
  | 117 => und117
  | 118 => und118
  | 119 => und119
  | 120 => und120
  | 121 => und121
  | 122 => und122
  | 123 => und123
  | 124 => und124
  | 125 => und125
  | 126 => und126
  | 127 => und127
  | 128 => und128
  | 129 => und129
  | 130 => und130
  | 131 => und131
  | 132 => und132
  | 133 => und133
  | 134 => und134
  | 135 => und135
  | 136 => und136
  | 137 => und137
  | 138 => und138
  | 139 => und139
  | 140 => und140
  | 141 => und141
  | 142 => und142
  | 143 => und143
  | 144 => und144
  | 145 => und145
  | 146 => und146
  | 147 => und147
  | 148 => und148
  | 149 => und149
  | 150 => und150
  | 151 => trivial
  | k + 152 => und_past ttLen (Nat.le_add_left _ _)
theorem TTinf : ∀ t, tt.ok t = true → InfoOk Try.prog tt t := fun t => match t with
  | 0 => fun h => nomatch h
  | 1 => fun h => inf1
  | 2 => fun h => inf2
  | 3 => fun h => inf3
  | 4 => fun h => inf4
  | 5 => fun h => inf5
  | 6 => fun h => inf6
  | 7 => fun h => inf7
  | 8 => fun h => inf8
  | 9 => fun h => inf9
  | 10 => fun h => inf10
  | 11 => fun h => inf11
  | 12 => fun h => inf12
  | 13 => fun h => inf13
  | 14 => fun h => inf14
  | 15 => fun h => inf15
  | 16 => fun h => inf16
  | 17 => fun h => inf17
  | 18 => fun h => inf18
  | 19 => fun h => inf19
  | 20 => fun h => inf20
  | 21 => fun h => inf21
  | 22 => fun h => inf22
  | 23 => fun h => inf23
  | 24 => fun h => inf24
  | 25 => fun h => inf25
  | 26 => fun h => inf26
  | 27 => fun h => inf27
  | 28 => fun h => inf28
  | 29 => fun h => nomatch h
  | 30 => fun h => inf30
  | 31 => fun h => inf31
  | 32 => fun h => inf32
  | 33 => fun h => inf33
  | 34 => fun h => inf34
  | 35 => fun h => inf35
  | 36 => fun h => inf36
  | 37 => fun h => inf37
  | 38 => fun h => inf38
  | 39 => fun h => inf39
  | 40 => fun h => inf40
  | 41 => fun h => inf41
  | 42 => fun h => inf42
  | 43 => fun h => inf43
  | 44 => fun h => inf44
  | 45 => fun h => inf45
  | 46 => fun h => inf46
  | 47 => fun h => inf47
  | 48 => fun h => inf48
  | 49 => fun h => inf49
  | 50 => fun h => inf50
  | 51 => fun h => inf51
  | 52 => fun h => inf52
  | 53 => fun h => inf53
  | 54 => fun h => inf54
  | 55 => fun h => nomatch h
  | 56 => fun h => inf56
  | 57 => fun h => inf57
  | 58 => fun h => inf58
  | 59 => fun h => nomatch h
  | 60 => fun h => inf60
  | 61 => fun h => nomatch h
  | 62 => fun h => inf62
  | 63 => fun h => nomatch h
  | 64 => fun h => inf64
  | 65 => fun h => nomatch h
  | 66 => fun h => inf66
  | 67 => fun h => inf67
  | 68 => fun h => inf68
  | 69 => fun h => inf69
  | 70 => fun h => inf70
  | 71 => fun h => inf71
  | 72 => fun h => inf72
  | 73 => fun h => inf73
  | 74 => fun h => inf74
  | 75 => fun h => inf75
  | 76 => fun h => inf76
  | 77 => fun h => inf77
  | 78 => fun h => inf78
  | 79 => fun h => inf79
  | 80 => fun h => inf80
  | 81 => fun h => inf81
  | 82 => fun h => inf82
  | 83 => fun h => inf83
  | 84 => fun h => inf84
  | 85 => fun h => inf85
  | 86 => fun h => inf86
  | 87 => fun h => inf87
  | 88 => fun h => inf88
  | 89 => fun h => inf89
  | 90 => fun h => inf90
  | 91 => fun h => inf91
  | 92 => fun h => inf92
  | 93 => fun h => inf93
  | 94 => fun h => inf94
  | 95 => fun h => inf95
  | 96 => fun h => inf96
  | 97 => fun h => inf97
  | 98 => fun h => inf98
  | 99 => fun h => inf99
  | 100 => fun h => inf100
  | 101 => fun h => inf101
  | 102 => fun h => inf102
  | 103 => fun h => inf103
  | 104 => fun h => inf104
  | 105 => fun h => inf105
  | 106 => fun h => inf106
  | 107 => fun h => inf107
  | 108 => fun h => inf108
  | 109 => fun h => inf109
  | 110 => fun h => inf110
  | 111 => fun h => inf111
  | 112 => fun h => inf112
  | 113 => fun h => inf113
  | 114 => fun h => inf114
  | 115 => fun h => inf115
  | 116 => fun h => nomatch h
  | 117 => fun h => inf117
  | 118 => fun h => inf118
  | 119 => fun h => inf119
  | 120 => fun h => inf120
  | 121 => fun h => inf121
  | 122 => fun h => inf122
  | 123 => fun h => inf123
  | 124 => fun h => inf124
  | 125 => fun h => inf125
  | 126 => fun h => inf126
  | 127 => fun h => inf127
  | 128 => fun h => inf128
  | 129 => fun h => inf129
  | 130 => fun h => inf130
  | 131 => fun h => inf131
  | 132 => fun h => inf132
  | 133 => fun h => inf133
  | 134 => fun h => inf134
  | 135 => fun h => inf135
  | 136 => fun h => inf136
  | 137 => fun h => inf137
  | 138 => fun h => inf138
  | 139 => fun h => inf139
  | 140 => fun h => inf140
  | 141 => fun h => inf141
  | 142 => fun h => inf142
  | 143 => fun h => inf143
  | 144 => fun h => inf144
  | 145 => fun h => inf145
  | 146 => fun h => inf146
  | 147 => fun h => inf147
  | 148 => fun h => inf148
  | 149 => fun h => inf149
  | 150 => fun h => inf150
  | 151 => fun h => nomatch h
  | k + 152 => fun h => (ok_past ttLen (Nat.le_add_left _ _) h).elim
theorem eqf28 : EqFlat Try.prog tt 28 := .of (by kernel_rfl) (by kernel_rfl) (by kernel_rfl) (by kernel_rfl)
theorem eqf45 : EqFlat Try.prog tt 45 := .of (by kernel_rfl) (by kernel_rfl) (by kernel_rfl) (by kernel_rfl)
theorem eqf47 : EqFlat Try.prog tt 47 := .of (by kernel_rfl) (by kernel_rfl) (by kernel_rfl) (by kernel_rfl)
theorem eqf81 : EqFlat Try.prog tt 81 := .of (by kernel_rfl) (by kernel_rfl) (by kernel_rfl) (by kernel_rfl)
theorem TTeq : ∀ t, (tt.at t).eq = true → EqFlat Try.prog tt t := fun t => match t with
  | 0 => fun h => nomatch h
  | 1 => fun h => nomatch h
  | 2 => fun h => nomatch h
  | 3 => fun h => nomatch h
  | 4 => fun h => nomatch h
  | 5 => fun h => nomatch h
  | 6 => fun h => nomatch h
  | 7 => fun h => nomatch h
  | 8 => fun h => nomatch h
  | 9 => fun h => nomatch h
  | 10 => fun h => nomatch h
  | 11 => fun h => nomatch h
  | 12 => fun h => nomatch h
  | 13 => fun h => nomatch h
  | 14 => fun h => nomatch h
  | 15 => fun h => nomatch h
  | 16 => fun h => nomatch h
  | 17 => fun h => nomatch h
  | 18 => fun h => nomatch h
  | 19 => fun h => nomatch h
  | 20 => fun h => nomatch h
  | 21 => fun h => nomatch h
  | 22 => fun h => nomatch h
  | 23 => fun h => nomatch h
  | 24 => fun h => nomatch h
  | 25 => fun h => nomatch h
  | 26 => fun h => nomatch h
  | 27 => fun h => nomatch h
  | 28 => fun h => eqf28
  | 29 => fun h => nomatch h
  | 30 => fun h => nomatch h
  | 31 => fun h => nomatch h
  | 32 => fun h => nomatch h
  | 33 => fun h => nomatch h
  | 34 => fun h => nomatch h
  | 35 => fun h => nomatch h
  | 36 => fun h => nomatch h
  | 37 => fun h => nomatch h
  | 38 => fun h => nomatch h
  | 39 => fun h => nomatch h
  | 40 => fun h => nomatch h
  | 41 => fun h => nomatch h
  | 42 => fun h => nomatch h
  | 43 => fun h => nomatch h
  | 44 => fun h => nomatch h
  | 45 => fun h => eqf45
  | 46 => fun h => nomatch h
  | 47 => fun h => eqf47
  | 48 => fun h => nomatch h
  | 49 => fun h => nomatch h
  | 50 => fun h => nomatch h
  | 51 => fun h => nomatch h
  | 52 => fun h => nomatch h
  | 53 => fun h => nomatch h
  | 54 => fun h => nomatch h
  | 55 => fun h => nomatch h
  | 56 => fun h => nomatch h
  | 57 => fun h => nomatch h
  | 58 => fun h => nomatch h
  | 59 => fun h => nomatch h
  | 60 => fun h => nomatch h
  | 61 => fun h => nomatch h
  | 62 => fun h => nomatch h
  | 63 => fun h => nomatch h
  | 64 => fun h => nomatch h
  | 65 => fun h => nomatch h
  | 66 => fun h => nomatch h
  | 67 => fun h => nomatch h
  | 68 => fun h => nomatch h
  | 69 => fun h => nomatch h
  | 70 => fun h => nomatch h
  | 71 => fun h => nomatch h
  | 72 => fun h => nomatch h
  | 73 => fun h => nomatch h
  | 74 => fun h => nomatch h
  | 75 => fun h => nomatch h
  | 76 => fun h => nomatch h
  | 77 => fun h => nomatch h
  | 78 => fun h => nomatch h
  | 79 => fun h => nomatch h
  | 80 => fun h => nomatch h
  | 81 => fun h => eqf81
  | 82 => fun h => nomatch h
  | 83 => fun h => nomatch h
  | 84 => fun h => nomatch h
  | 85 => fun h => nomatch h
  | 86 => fun h => nomatch h
  | 87 => fun h => nomatch h
  | 88 => fun h => nomatch h
  | 89 => fun h => nomatch h
  | 90 => fun h => nomatch h
  | 91 => fun h => nomatch h
  | 92 => fun h => nomatch h
  | 93 => fun h => nomatch h
  | 94 => fun h => nomatch h
  | 95 => fun h => nomatch h
  | 96 => fun h => nomatch h
  | 97 => fun h => nomatch h
  | 98 => fun h => nomatch h
  | 99 => fun h => nomatch h
  | 100 => fun h => nomatch h
  | 101 => fun h => nomatch h
  | 102 => fun h => nomatch h
  | 103 => fun h => nomatch h
  | 104 => fun h => nomatch h
  | 105 => fun h => nomatch h
  | 106 => fun h => nomatch h
  | 107 => fun h => nomatch h
  | 108 => fun h => nomatch h
  | 109 => fun h => nomatch h
  | 110 => fun h => nomatch h
  | 111 => fun h => nomatch h
  | 112 => fun h => nomatch h
  | 113 => fun h => nomatch h
  | 114 => fun h => nomatch h
  | 115 => fun h => nomatch h
  | 116 => fun h => nomatch h
  | 117 => fun h => nomatch h
  | 118 => fun h => nomatch h
  | 119 => fun h => nomatch h
  | 120 => fun h => nomatch h
  | 121 => fun h => nomatch h
  | 122 => fun h => nomatch h
  | 123 => fun h => nomatch h
  | 124 => fun h => nomatch h
  | 125 => fun h => nomatch h
  | 126 => fun h => nomatch h
  | 127 => fun h => nomatch h
  | 128 => fun h => nomatch h
  | 129 => fun h => nomatch h
  | 130 => fun h => nomatch h
  | 131 => fun h => nomatch h
  | 132 => fun h => nomatch h
  | 133 => fun h => nomatch h
  | 134 => fun h => nomatch h
  | 135 => fun h => nomatch h
  | 136 => fun h => nomatch h
  | 137 => fun h => nomatch h
  | 138 => fun h => nomatch h
  | 139 => fun h => nomatch h
  | 140 => fun h => nomatch h
  | 141 => fun h => nomatch h
  | 142 => fun h => nomatch h
  | 143 => fun h => nomatch h
  | 144 => fun h => nomatch h
  | 145 => fun h => nomatch h
  | 146 => fun h => nomatch h
  | 147 => fun h => nomatch h
  | 148 => fun h => nomatch h
  | 149 => fun h => nomatch h
  | 150 => fun h => nomatch h
  | 151 => fun h => nomatch h
  | k + 152 => fun h => (eq_past ttLen (Nat.le_add_left _ _) h).elim
theorem TTeqs : ∀ t, ∀ (w : World) (h : Heap) (c : Cfg) (cs ds : List V) (xs ys : Array Value) (b : Bool), eqOk (tt.at t) cs ds = true → RepL w h c cs xs.toList → RepL w h c ds ys.toList →
    eqCells cs ds = some b → Try.prog.eqGuardType Try.prog.depth t = false ∧ (Op.equalIn 10000 t (.agg xs) (.agg ys)).run Try.prog w = .ok b w :=
  fun t _ _ _ _ _ _ _ _ hk rx ry hb => eqs_flat (TTeq t (eqOk_eq hk)) hk rx ry hb
theorem TT : TOK Try.prog tt := ⟨TTund, fun t h => (TTinf t h).spec, TTeqs⟩
theorem mixed : Try.prog.follows .mixedOrders = true := by kernel_rfl
end Go.Proofs.Ytcocpfgemdkkfaa

/-
  Functions of the program as pure Lean functions, and the ties; printed by wip/tools/emit.py.
-/
set_option maxRecDepth 100000
set_option linter.unusedVariables false
namespace Go.Proofs.Ytcocpfgemdkkfaa
open Go Go.Yard

/-! ### slices.Index[[]string,string] -/
abbrev slices_Index_stringstring_ty (R : Type) : Type := (List Str) → Str → (Int → Option R) → Option R
abbrev slices_Index_stringstring_p : List Pat := [.leaf (.sl .str), .leaf (.str)]
abbrev slices_Index_stringstring_q : List HPat := []
noncomputable def slices_Index_stringstring_rr {R : Type} (fn : slices_Index_stringstring_ty R) : Pat.dens slices_Index_stringstring_p → HPat.dens slices_Index_stringstring_q → (V → Heap → Option R) → Option R := fun x y k => fn x.1 x.2.1 (fun q0 => k (.int .i64 q0) [])
abbrev slices_Index_stringstring_2_0_ty (R : Type) : Type := Nat → (List Str) → Str → Int → Int → (Option R) → (Int → Option R) → Option R
noncomputable def slices_Index_stringstring_E (R : Type) : Env R := fun i => match i with
  | _ => none
theorem slices_Index_stringstring_EOk (R : Type) : EOk Try.prog (slices_Index_stringstring_E R) := by
  intro i b sp h
  unfold slices_Index_stringstring_E at h
  split at h
  · cases h

noncomputable def slices_Index_stringstring_2_0_B {R : Type} (rec' : (List Str) → Str → Int → Int → Option R) (x3 : List Str) (x4 : Str) (x5 : Int) (x6 : Int) (e0 : Option R) (e1 : Int → Option R) : Option R :=
  bif (decide (x6 < x5)) then (chk (decide ((0 : Int) ≤ x6) && decide (x6 < x3.length)) (bif (x4 == (x3.getD x6.toNat (Ty.dflt .str))) then (e1 x6) else (rec' x3 x4 x5 (IntKind.i64.wrap (x6 + 1))))) else (e0)
noncomputable def slices_Index_stringstring_2_0_L {R : Type} : slices_Index_stringstring_2_0_ty R
  | 0, _, _, _, _, _, _ => none
  | n + 1, x0', x1', x2', x3', e0, e1 => slices_Index_stringstring_2_0_B (fun x0' x1' x2' x3' => slices_Index_stringstring_2_0_L n x0' x1' x2' x3' e0 e1) x0' x1' x2' x3' e0 e1
noncomputable def slices_Index_stringstring_2_0_h : Hint := { live := [0, 1, 7, 8], own := [], rows := [], cells := [], drop := [], out := [4] }
abbrev slices_Index_stringstring_2_0_D : Type := (List Str) × Str × Int × Int
noncomputable def slices_Index_stringstring_2_0_enc : slices_Index_stringstring_2_0_D → St := fun d => ⟨[.sl .str d.1 .no, .str d.2.1, .undef, .undef, .undef, .undef, .undef, .int .i64 d.2.2.1, .int .i64 d.2.2.2, .undef, .undef, .undef, .undef, .undef, .undef, .undef, .undef, .undef, .undef], []⟩
noncomputable def slices_Index_stringstring_2_0_x0 {R : Type} (K : Ex → St → Option R) : Option R := K (.exit 0) ⟨[.undef, .undef, .undef, .undef, .undef, .undef, .undef, .undef, .undef, .undef, .undef, .undef, .undef, .undef, .undef, .undef, .undef, .undef, .undef], []⟩
noncomputable def slices_Index_stringstring_2_0_x1 {R : Type} (K : Ex → St → Option R) (q0 : Int) : Option R := K (.ret) ⟨[.undef, .undef, .undef, .undef, .int .i64 q0, .undef, .undef, .undef, .undef, .undef, .undef, .undef, .undef, .undef, .undef, .undef, .undef, .undef, .undef], []⟩
noncomputable def slices_Index_stringstring_2_0_s {R : Type} (K : Ex → St → Option R) (rc : slices_Index_stringstring_2_0_D → Option R) (d : slices_Index_stringstring_2_0_D) : Option R := slices_Index_stringstring_2_0_B (fun z0 z1 z2 z3 => rc (z0, z1, z2, z3)) d.1 d.2.1 d.2.2.1 d.2.2.2 (slices_Index_stringstring_2_0_x0 K) (slices_Index_stringstring_2_0_x1 K)
noncomputable def slices_Index_stringstring_2_0_A {R : Type} (K : Ex → St → Option R) (n : Nat) (d : slices_Index_stringstring_2_0_D) : Option R := slices_Index_stringstring_2_0_L n d.1 d.2.1 d.2.2.1 d.2.2.2 (slices_Index_stringstring_2_0_x0 K) (slices_Index_stringstring_2_0_x1 K)
abbrev slices_Index_stringstring_2_0_p : List Pat := [.leaf (.sl .str), .leaf (.str), .leaf (.undef), .leaf (.undef), .leaf (.undef), .leaf (.undef), .leaf (.undef), .leaf (.int .i64), .leaf (.int .i64), .leaf (.undef), .leaf (.undef), .leaf (.undef), .leaf (.undef), .leaf (.undef), .leaf (.undef), .leaf (.undef), .leaf (.undef), .leaf (.undef), .leaf (.undef)]
abbrev slices_Index_stringstring_2_0_q : List HPat := []
noncomputable def slices_Index_stringstring_2_0_f (x : Pat.dens slices_Index_stringstring_2_0_p) (y : HPat.dens slices_Index_stringstring_2_0_q) : Nat := (List.length x.1 + List.length x.2.1 + Int.natAbs x.2.2.2.2.2.2.2.1 + Int.natAbs x.2.2.2.2.2.2.2.2.1 + 3)
noncomputable def slices_Index_stringstring_2_0_d (x : Pat.dens slices_Index_stringstring_2_0_p) (y : HPat.dens slices_Index_stringstring_2_0_q) : slices_Index_stringstring_2_0_D := (x.1, x.2.1, x.2.2.2.2.2.2.2.1, x.2.2.2.2.2.2.2.2.1)
noncomputable def slices_Index_stringstring_2_0_rr {R : Type} (L : slices_Index_stringstring_2_0_ty R) : Pat.dens slices_Index_stringstring_2_0_p → HPat.dens slices_Index_stringstring_2_0_q → (Ex → St → Option R) → Option R := fun x y K => L (slices_Index_stringstring_2_0_f x y) x.1 x.2.1 x.2.2.2.2.2.2.2.1 x.2.2.2.2.2.2.2.2.1 (slices_Index_stringstring_2_0_x0 K) (slices_Index_stringstring_2_0_x1 K)
noncomputable def slices_Index_stringstring_T (R : Type) (slices_Index_stringstring_2_0_L : slices_Index_stringstring_2_0_ty R) : Nat → Option (Hint × LSpec R) := fun i => match i with
  | 2 => some (slices_Index_stringstring_2_0_h, (loopBy slices_Index_stringstring_2_0_p slices_Index_stringstring_2_0_q (slices_Index_stringstring_2_0_rr slices_Index_stringstring_2_0_L) loopNo))
  | _ => none

theorem slices_Index_stringstring_2_0_B_ok {R : Type} (slices_Index_stringstring_2_0_L : slices_Index_stringstring_2_0_ty R) (K : Ex → St → Option R) (rc : St → Option R) (d : slices_Index_stringstring_2_0_D) : roundOf tt (slices_Index_stringstring_E R) (slices_Index_stringstring_T R slices_Index_stringstring_2_0_L) 0 ((loopsOf (codeOf Try.f90)).getD 0 .skip) slices_Index_stringstring_2_0_h (slices_Index_stringstring_2_0_enc d) rc K = slices_Index_stringstring_2_0_s K (fun d => rc (slices_Index_stringstring_2_0_enc d)) d := by kernel_rfl
theorem slices_Index_stringstring_2_0_A_succ {R : Type} (K : Ex → St → Option R) (n : Nat) (d : slices_Index_stringstring_2_0_D) : slices_Index_stringstring_2_0_A K (n + 1) d = slices_Index_stringstring_2_0_s K (slices_Index_stringstring_2_0_A K n) d := by kernel_rfl
theorem slices_Index_stringstring_2_0_A_zero {R : Type} (K : Ex → St → Option R) (d : slices_Index_stringstring_2_0_D) : slices_Index_stringstring_2_0_A K 0 d = none := by kernel_rfl
theorem slices_Index_stringstring_2_0_e_ok (x : Pat.dens slices_Index_stringstring_2_0_p) (y : HPat.dens slices_Index_stringstring_2_0_q) : (⟨Pat.encL slices_Index_stringstring_2_0_p x, HPat.encL slices_Index_stringstring_2_0_q y⟩ : St) = slices_Index_stringstring_2_0_enc (slices_Index_stringstring_2_0_d x y) := by kernel_rfl
theorem slices_Index_stringstring_2_0_r_ok {R : Type} (x : Pat.dens slices_Index_stringstring_2_0_p) (y : HPat.dens slices_Index_stringstring_2_0_q) (K : Ex → St → Option R) : slices_Index_stringstring_2_0_rr (slices_Index_stringstring_2_0_L) x y K = slices_Index_stringstring_2_0_A K (slices_Index_stringstring_2_0_f x y) (slices_Index_stringstring_2_0_d x y) := by kernel_rfl
theorem slices_Index_stringstring_2_0_ok {R : Type} (other : LSpec R) (ho : LsOk tt (slices_Index_stringstring_E R) (slices_Index_stringstring_T R slices_Index_stringstring_2_0_L) 0 ((loopsOf (codeOf Try.f90)).getD 0 .skip) slices_Index_stringstring_2_0_h other) : LsOk tt (slices_Index_stringstring_E R) (slices_Index_stringstring_T R slices_Index_stringstring_2_0_L) 0 ((loopsOf (codeOf Try.f90)).getD 0 .skip) slices_Index_stringstring_2_0_h (loopBy slices_Index_stringstring_2_0_p slices_Index_stringstring_2_0_q (slices_Index_stringstring_2_0_rr (slices_Index_stringstring_2_0_L)) other) :=
  loopBy_tie (A := slices_Index_stringstring_2_0_A) ho (loop_tie slices_Index_stringstring_2_0_enc (slices_Index_stringstring_2_0_s) (slices_Index_stringstring_2_0_A) (slices_Index_stringstring_2_0_A_zero) (slices_Index_stringstring_2_0_B_ok slices_Index_stringstring_2_0_L) (slices_Index_stringstring_2_0_A_succ)) slices_Index_stringstring_2_0_f slices_Index_stringstring_2_0_d slices_Index_stringstring_2_0_e_ok (slices_Index_stringstring_2_0_r_ok)

noncomputable def slices_Index_stringstring_X {R : Type} (slices_Index_stringstring_2_0_L : slices_Index_stringstring_2_0_ty R) (x1 : List Str) (x2 : Str) (k0 : Int → Option R) : Option R :=
  slices_Index_stringstring_2_0_L (List.length x1 + List.length x2 + Int.natAbs (x1.length : Int) + Int.natAbs 0 + 3) x1 x2 (x1.length : Int) 0 (k0 (-1)) (fun y7 => k0 y7)
noncomputable def slices_Index_stringstring {R : Type} : slices_Index_stringstring_ty R := fun x1 x2 k0 => slices_Index_stringstring_X slices_Index_stringstring_2_0_L x1 x2 k0
theorem slices_Index_stringstring_ok {R : Type} (slices_Index_stringstring_2_0_L : slices_Index_stringstring_2_0_ty R) (x1 : List Str) (x2 : Str) (k : V → Heap → Option R) : funK tt (slices_Index_stringstring_E R) (slices_Index_stringstring_T R slices_Index_stringstring_2_0_L) false Try.f90 (codeOf Try.f90) [.sl .str x1 .no, .str x2] [] k =
    slices_Index_stringstring_X slices_Index_stringstring_2_0_L x1 x2 (fun q0 => k (.int .i64 q0) []) := by kernel_rfl
theorem slices_Index_stringstring_loops (R : Type) : ∀ a ∈ loopsOf (codeOf Try.f90), LoopOk tt (slices_Index_stringstring_E R) (slices_Index_stringstring_T R slices_Index_stringstring_2_0_L) 0 a := by
  refine loops_ok 1 (by kernel_rfl) fun i hi => ?_
  match i, hi with
  | 0, _ => exact loopOk_some (by kernel_rfl) (slices_Index_stringstring_2_0_ok _ loopNo_ok)
  | n + 1, hi => omega
theorem slices_Index_stringstring_S_ok (R : Type) (other : Yard.Spec R) (ho : Yard.Spec.Ok Try.prog 90 other) : Yard.Spec.Ok Try.prog 90 (specBy slices_Index_stringstring_p slices_Index_stringstring_q (slices_Index_stringstring_rr slices_Index_stringstring) other) :=
  specBy_ok ho (funK_sound TT mixed (slices_Index_stringstring_EOk R) (keep := false) rfl rfl rfl rfl 0 (slices_Index_stringstring_loops R)) fun (x : Pat.dens slices_Index_stringstring_p) (y : HPat.dens slices_Index_stringstring_q) k => slices_Index_stringstring_ok slices_Index_stringstring_2_0_L x.1 x.2.1 k

/-! ### humpyard/field.find -/
abbrev field_find_ty (R : Type) : Type := Json → Str → (Json → Bool → Option R) → Option R
abbrev field_find_p : List Pat := [.agg [.int .i64, .int .i64, .int .i64, .str, .sl .str, .sl .json], .leaf (.str)]
abbrev field_find_q : List HPat := []
noncomputable def field_find_rr {R : Type} (fn : field_find_ty R) : Pat.dens field_find_p → HPat.dens field_find_q → (V → Heap → Option R) → Option R := fun x y k => fn (⟨x.1.1, ⟨x.1.2.1, x.1.2.2.1⟩, x.1.2.2.2.1, x.1.2.2.2.2.1, x.1.2.2.2.2.2.1⟩ : Json) x.2.1 (fun q0 q1 => k (.tuple [.agg [.int .i64 q0.kind, .int .i64 q0.num.mant, .int .i64 q0.num.exp, .str q0.text, .sl .str q0.names .no, .sl .json q0.items .no], .bool q1]) [])
noncomputable def field_find_E (R : Type) (slices_Index_stringstring : slices_Index_stringstring_ty R) : Env R := fun i => match i with
  | 90 => some (true, (specBy slices_Index_stringstring_p slices_Index_stringstring_q (slices_Index_stringstring_rr slices_Index_stringstring) specNo))
  | _ => none
theorem field_find_EOk (R : Type) : EOk Try.prog (field_find_E R slices_Index_stringstring) := by
  intro i b sp h
  unfold field_find_E at h
  split at h
  · cases h; exact (slices_Index_stringstring_S_ok R _ (specNo_ok _))
  · cases h

noncomputable def field_find_T (R : Type) : Nat → Option (Hint × LSpec R) := fun i => match i with
  | _ => none

noncomputable def field_find_X {R : Type} (slices_Index_stringstring : slices_Index_stringstring_ty R) (x1 : Json) (x2 : Str) (k0 : Json → Bool → Option R) : Option R :=
  slices_Index_stringstring x1.names x2 (fun y3 => bif (x1.kind != 7) then (k0 (⟨0, ⟨0, 0⟩, ([] : Str), ([] : List Str), ([] : List Json)⟩ : Json) false) else (bif (decide (y3 < (0 : Int))) then (k0 (⟨0, ⟨0, 0⟩, ([] : Str), ([] : List Str), ([] : List Json)⟩ : Json) false) else (bif (decide (y3 ≥ (x1.items.length : Int))) then (k0 (⟨0, ⟨0, 0⟩, ([] : Str), ([] : List Str), ([] : List Json)⟩ : Json) false) else (chk (decide ((0 : Int) ≤ y3) && decide (y3 < x1.items.length)) (k0 (⟨(x1.items.getD y3.toNat (Ty.dflt .json)).kind, ⟨(x1.items.getD y3.toNat (Ty.dflt .json)).num.mant, (x1.items.getD y3.toNat (Ty.dflt .json)).num.exp⟩, (x1.items.getD y3.toNat (Ty.dflt .json)).text, (x1.items.getD y3.toNat (Ty.dflt .json)).names, (x1.items.getD y3.toNat (Ty.dflt .json)).items⟩ : Json) true)))))
noncomputable def field_find {R : Type} : field_find_ty R := fun x1 x2 k0 => field_find_X slices_Index_stringstring x1 x2 k0
theorem field_find_ok {R : Type} (slices_Index_stringstring : slices_Index_stringstring_ty R) (x1 : Json) (x2 : Str) (k : V → Heap → Option R) : funK tt (field_find_E R slices_Index_stringstring) (field_find_T R) false Try.f68 (codeOf Try.f68) [.agg [.int .i64 x1.kind, .int .i64 x1.num.mant, .int .i64 x1.num.exp, .str x1.text, .sl .str x1.names .no, .sl .json x1.items .no], .str x2] [] k =
    field_find_X slices_Index_stringstring x1 x2 (fun q0 q1 => k (.tuple [.agg [.int .i64 q0.kind, .int .i64 q0.num.mant, .int .i64 q0.num.exp, .str q0.text, .sl .str q0.names .no, .sl .json q0.items .no], .bool q1]) []) := by kernel_rfl
theorem field_find_loops (R : Type) : ∀ a ∈ loopsOf (codeOf Try.f68), LoopOk tt (field_find_E R slices_Index_stringstring) (field_find_T R) 0 a := by
  refine loops_ok 0 (by kernel_rfl) fun i hi => ?_
  omega
theorem field_find_S_ok (R : Type) (other : Yard.Spec R) (ho : Yard.Spec.Ok Try.prog 68 other) : Yard.Spec.Ok Try.prog 68 (specBy field_find_p field_find_q (field_find_rr field_find) other) :=
  specBy_ok ho (funK_sound TT mixed (field_find_EOk R) (keep := false) rfl rfl rfl rfl 0 (field_find_loops R)) fun (x : Pat.dens field_find_p) (y : HPat.dens field_find_q) k => field_find_ok slices_Index_stringstring (⟨x.1.1, ⟨x.1.2.1, x.1.2.2.1⟩, x.1.2.2.2.1, x.1.2.2.2.2.1, x.1.2.2.2.2.2.1⟩ : Json) x.2.1 k

/-! ### humpyard/decimal.within[int] -/
abbrev decimal_within_int_ty (R : Type) : Type := Int → Int → Int → (Bool → Option R) → Option R
abbrev decimal_within_int_p : List Pat := [.leaf (.int .i64), .leaf (.int .i64), .leaf (.int .i64)]
abbrev decimal_within_int_q : List HPat := []
noncomputable def decimal_within_int_rr {R : Type} (fn : decimal_within_int_ty R) : Pat.dens decimal_within_int_p → HPat.dens decimal_within_int_q → (V → Heap → Option R) → Option R := fun x y k => fn x.1 x.2.1 x.2.2.1 (fun q0 => k (.bool q0) [])
noncomputable def decimal_within_int_E (R : Type) : Env R := fun i => match i with
  | _ => none
theorem decimal_within_int_EOk (R : Type) : EOk Try.prog (decimal_within_int_E R) := by
  intro i b sp h
  unfold decimal_within_int_E at h
  split at h
  · cases h

noncomputable def decimal_within_int_T (R : Type) : Nat → Option (Hint × LSpec R) := fun i => match i with
  | _ => none

noncomputable def decimal_within_int_X {R : Type} (x1 : Int) (x2 : Int) (x3 : Int) (k0 : Bool → Option R) : Option R :=
  bif (decide (x1 ≤ x2)) then (k0 (decide (x2 ≤ x3))) else (k0 false)
noncomputable def decimal_within_int {R : Type} : decimal_within_int_ty R := fun x1 x2 x3 k0 => decimal_within_int_X x1 x2 x3 k0
theorem decimal_within_int_ok {R : Type} (x1 : Int) (x2 : Int) (x3 : Int) (k : V → Heap → Option R) : funK tt (decimal_within_int_E R) (decimal_within_int_T R) false Try.f95 (codeOf Try.f95) [.int .i64 x1, .int .i64 x2, .int .i64 x3] [] k =
    decimal_within_int_X x1 x2 x3 (fun q0 => k (.bool q0) []) := by kernel_rfl
theorem decimal_within_int_loops (R : Type) : ∀ a ∈ loopsOf (codeOf Try.f95), LoopOk tt (decimal_within_int_E R) (decimal_within_int_T R) 0 a := by
  refine loops_ok 0 (by kernel_rfl) fun i hi => ?_
  omega
theorem decimal_within_int_S_ok (R : Type) (other : Yard.Spec R) (ho : Yard.Spec.Ok Try.prog 95 other) : Yard.Spec.Ok Try.prog 95 (specBy decimal_within_int_p decimal_within_int_q (decimal_within_int_rr decimal_within_int) other) :=
  specBy_ok ho (funK_sound TT mixed (decimal_within_int_EOk R) (keep := false) rfl rfl rfl rfl 0 (decimal_within_int_loops R)) fun (x : Pat.dens decimal_within_int_p) (y : HPat.dens decimal_within_int_q) k => decimal_within_int_ok x.1 x.2.1 x.2.2.1 k

/-! ### humpyard/decimal.Right -/
abbrev decimal_Right_ty (R : Type) : Type := Dcm → (Bool → Option R) → Option R
abbrev decimal_Right_p : List Pat := [.agg [.int .i64, .int .i64]]
abbrev decimal_Right_q : List HPat := []
noncomputable def decimal_Right_rr {R : Type} (fn : decimal_Right_ty R) : Pat.dens decimal_Right_p → HPat.dens decimal_Right_q → (V → Heap → Option R) → Option R := fun x y k => fn (⟨x.1.1, x.1.2.1⟩ : Dcm) (fun q0 => k (.bool q0) [])
noncomputable def decimal_Right_E (R : Type) (decimal_within_int : decimal_within_int_ty R) : Env R := fun i => match i with
  | 95 => some (true, (specBy decimal_within_int_p decimal_within_int_q (decimal_within_int_rr decimal_within_int) specNo))
  | _ => none
theorem decimal_Right_EOk (R : Type) : EOk Try.prog (decimal_Right_E R decimal_within_int) := by
  intro i b sp h
  unfold decimal_Right_E at h
  split at h
  · cases h; exact (decimal_within_int_S_ok R _ (specNo_ok _))
  · cases h

noncomputable def decimal_Right_T (R : Type) : Nat → Option (Hint × LSpec R) := fun i => match i with
  | _ => none

noncomputable def decimal_Right_X {R : Type} (decimal_within_int : decimal_within_int_ty R) (x1 : Dcm) (k0 : Bool → Option R) : Option R :=
  bif (x1.mant == 0) then (k0 (x1.exp == 0)) else (bif ((Int.tmod x1.mant 10) != 0) then (decimal_within_int (-1000000000000000) x1.mant 1000000000000000 (fun y2 => bif y2 then (decimal_within_int (-9) x1.exp 9 (fun y3 => k0 y3)) else (k0 false))) else (k0 false))
noncomputable def decimal_Right {R : Type} : decimal_Right_ty R := fun x1 k0 => decimal_Right_X decimal_within_int x1 k0
theorem decimal_Right_ok {R : Type} (decimal_within_int : decimal_within_int_ty R) (x1 : Dcm) (k : V → Heap → Option R) : funK tt (decimal_Right_E R decimal_within_int) (decimal_Right_T R) false Try.f98 (codeOf Try.f98) [.agg [.int .i64 x1.mant, .int .i64 x1.exp]] [] k =
    decimal_Right_X decimal_within_int x1 (fun q0 => k (.bool q0) []) := by kernel_rfl
theorem decimal_Right_loops (R : Type) : ∀ a ∈ loopsOf (codeOf Try.f98), LoopOk tt (decimal_Right_E R decimal_within_int) (decimal_Right_T R) 0 a := by
  refine loops_ok 0 (by kernel_rfl) fun i hi => ?_
  omega
theorem decimal_Right_S_ok (R : Type) (other : Yard.Spec R) (ho : Yard.Spec.Ok Try.prog 98 other) : Yard.Spec.Ok Try.prog 98 (specBy decimal_Right_p decimal_Right_q (decimal_Right_rr decimal_Right) other) :=
  specBy_ok ho (funK_sound TT mixed (decimal_Right_EOk R) (keep := false) rfl rfl rfl rfl 0 (decimal_Right_loops R)) fun (x : Pat.dens decimal_Right_p) (y : HPat.dens decimal_Right_q) k => decimal_Right_ok decimal_within_int (⟨x.1.1, x.1.2.1⟩ : Dcm) k

/-! ### humpyard/decimal.shifted -/
abbrev decimal_shifted_ty (R : Type) : Type := Dcm → Int → (Int → Bool → Option R) → Option R
abbrev decimal_shifted_p : List Pat := [.agg [.int .i64, .int .i64], .leaf (.int .i64)]
abbrev decimal_shifted_q : List HPat := []
noncomputable def decimal_shifted_rr {R : Type} (fn : decimal_shifted_ty R) : Pat.dens decimal_shifted_p → HPat.dens decimal_shifted_q → (V → Heap → Option R) → Option R := fun x y k => fn (⟨x.1.1, x.1.2.1⟩ : Dcm) x.2.1 (fun q0 q1 => k (.tuple [.int .i64 q0, .bool q1]) [])
abbrev decimal_shifted_3_0_ty (R : Type) : Type := Nat → Int → Int → Int → (Int → Option R) → (Int → Bool → Int → Option R) → Option R
noncomputable def decimal_shifted_E (R : Type) (decimal_within_int : decimal_within_int_ty R) : Env R := fun i => match i with
  | 95 => some (true, (specBy decimal_within_int_p decimal_within_int_q (decimal_within_int_rr decimal_within_int) specNo))
  | _ => none
theorem decimal_shifted_EOk (R : Type) : EOk Try.prog (decimal_shifted_E R decimal_within_int) := by
  intro i b sp h
  unfold decimal_shifted_E at h
  split at h
  · cases h; exact (decimal_within_int_S_ok R _ (specNo_ok _))
  · cases h

noncomputable def decimal_shifted_3_0_B {R : Type} (decimal_within_int : decimal_within_int_ty R) (rec' : Int → Int → Int → Option R) (x3 : Int) (x4 : Int) (x5 : Int) (e0 : Int → Option R) (e1 : Int → Bool → Int → Option R) : Option R :=
  bif (decide (x5 < x4)) then (decimal_within_int (-100000000000000000) x3 100000000000000000 (fun y6 => bif (!y6) then (e1 0 false x3) else (rec' (IntKind.i64.wrap (x3 * 10)) x4 (IntKind.i64.wrap (x5 + 1))))) else (e0 x3)
noncomputable def decimal_shifted_3_0_L {R : Type} : decimal_shifted_3_0_ty R
  | 0, _, _, _, _, _ => none
  | n + 1, x0', x1', x2', e0, e1 => decimal_shifted_3_0_B decimal_within_int (fun x0' x1' x2' => decimal_shifted_3_0_L n x0' x1' x2' e0 e1) x0' x1' x2' e0 e1
noncomputable def decimal_shifted_3_0_h : Hint := { live := [6, 12, 13], own := [], rows := [], cells := [], drop := [], out := [4, 5, 6] }
abbrev decimal_shifted_3_0_D : Type := Int × Int × Int
noncomputable def decimal_shifted_3_0_enc : decimal_shifted_3_0_D → St := fun d => ⟨[.undef, .undef, .undef, .undef, .undef, .undef, .int .i64 d.1, .undef, .undef, .undef, .undef, .undef, .int .i64 d.2.1, .int .i64 d.2.2, .undef, .undef, .undef, .undef, .undef, .undef, .undef, .undef], []⟩
noncomputable def decimal_shifted_3_0_x0 {R : Type} (K : Ex → St → Option R) (q0 : Int) : Option R := K (.exit 0) ⟨[.undef, .undef, .undef, .undef, .undef, .undef, .int .i64 q0, .undef, .undef, .undef, .undef, .undef, .undef, .undef, .undef, .undef, .undef, .undef, .undef, .undef, .undef, .undef], []⟩
noncomputable def decimal_shifted_3_0_x1 {R : Type} (K : Ex → St → Option R) (q0 : Int) (q1 : Bool) (q2 : Int) : Option R := K (.ret) ⟨[.undef, .undef, .undef, .undef, .int .i64 q0, .bool q1, .int .i64 q2, .undef, .undef, .undef, .undef, .undef, .undef, .undef, .undef, .undef, .undef, .undef, .undef, .undef, .undef, .undef], []⟩
noncomputable def decimal_shifted_3_0_s {R : Type} (decimal_within_int : decimal_within_int_ty R) (K : Ex → St → Option R) (rc : decimal_shifted_3_0_D → Option R) (d : decimal_shifted_3_0_D) : Option R := decimal_shifted_3_0_B decimal_within_int (fun z0 z1 z2 => rc (z0, z1, z2)) d.1 d.2.1 d.2.2 (decimal_shifted_3_0_x0 K) (decimal_shifted_3_0_x1 K)
noncomputable def decimal_shifted_3_0_A {R : Type} (K : Ex → St → Option R) (n : Nat) (d : decimal_shifted_3_0_D) : Option R := decimal_shifted_3_0_L n d.1 d.2.1 d.2.2 (decimal_shifted_3_0_x0 K) (decimal_shifted_3_0_x1 K)
abbrev decimal_shifted_3_0_p : List Pat := [.leaf (.undef), .leaf (.undef), .leaf (.undef), .leaf (.undef), .leaf (.undef), .leaf (.undef), .leaf (.int .i64), .leaf (.undef), .leaf (.undef), .leaf (.undef), .leaf (.undef), .leaf (.undef), .leaf (.int .i64), .leaf (.int .i64), .leaf (.undef), .leaf (.undef), .leaf (.undef), .leaf (.undef), .leaf (.undef), .leaf (.undef), .leaf (.undef), .leaf (.undef)]
abbrev decimal_shifted_3_0_q : List HPat := []
noncomputable def decimal_shifted_3_0_f (x : Pat.dens decimal_shifted_3_0_p) (y : HPat.dens decimal_shifted_3_0_q) : Nat := (Int.natAbs x.2.2.2.2.2.2.1 + Int.natAbs x.2.2.2.2.2.2.2.2.2.2.2.2.1 + Int.natAbs x.2.2.2.2.2.2.2.2.2.2.2.2.2.1 + 3)
noncomputable def decimal_shifted_3_0_d (x : Pat.dens decimal_shifted_3_0_p) (y : HPat.dens decimal_shifted_3_0_q) : decimal_shifted_3_0_D := (x.2.2.2.2.2.2.1, x.2.2.2.2.2.2.2.2.2.2.2.2.1, x.2.2.2.2.2.2.2.2.2.2.2.2.2.1)
noncomputable def decimal_shifted_3_0_rr {R : Type} (L : decimal_shifted_3_0_ty R) : Pat.dens decimal_shifted_3_0_p → HPat.dens decimal_shifted_3_0_q → (Ex → St → Option R) → Option R := fun x y K => L (decimal_shifted_3_0_f x y) x.2.2.2.2.2.2.1 x.2.2.2.2.2.2.2.2.2.2.2.2.1 x.2.2.2.2.2.2.2.2.2.2.2.2.2.1 (decimal_shifted_3_0_x0 K) (decimal_shifted_3_0_x1 K)
noncomputable def decimal_shifted_T (R : Type) (decimal_shifted_3_0_L : decimal_shifted_3_0_ty R) : Nat → Option (Hint × LSpec R) := fun i => match i with
  | 3 => some (decimal_shifted_3_0_h, (loopBy decimal_shifted_3_0_p decimal_shifted_3_0_q (decimal_shifted_3_0_rr decimal_shifted_3_0_L) loopNo))
  | _ => none

theorem decimal_shifted_3_0_B_ok {R : Type} (decimal_within_int : decimal_within_int_ty R) (decimal_shifted_3_0_L : decimal_shifted_3_0_ty R) (K : Ex → St → Option R) (rc : St → Option R) (d : decimal_shifted_3_0_D) : roundOf tt (decimal_shifted_E R decimal_within_int) (decimal_shifted_T R decimal_shifted_3_0_L) 0 ((loopsOf (codeOf Try.f99)).getD 0 .skip) decimal_shifted_3_0_h (decimal_shifted_3_0_enc d) rc K = decimal_shifted_3_0_s decimal_within_int K (fun d => rc (decimal_shifted_3_0_enc d)) d := by kernel_rfl
theorem decimal_shifted_3_0_A_succ {R : Type} (K : Ex → St → Option R) (n : Nat) (d : decimal_shifted_3_0_D) : decimal_shifted_3_0_A K (n + 1) d = decimal_shifted_3_0_s decimal_within_int K (decimal_shifted_3_0_A K n) d := by kernel_rfl
theorem decimal_shifted_3_0_A_zero {R : Type} (K : Ex → St → Option R) (d : decimal_shifted_3_0_D) : decimal_shifted_3_0_A K 0 d = none := by kernel_rfl
theorem decimal_shifted_3_0_e_ok (x : Pat.dens decimal_shifted_3_0_p) (y : HPat.dens decimal_shifted_3_0_q) : (⟨Pat.encL decimal_shifted_3_0_p x, HPat.encL decimal_shifted_3_0_q y⟩ : St) = decimal_shifted_3_0_enc (decimal_shifted_3_0_d x y) := by kernel_rfl
theorem decimal_shifted_3_0_r_ok {R : Type} (x : Pat.dens decimal_shifted_3_0_p) (y : HPat.dens decimal_shifted_3_0_q) (K : Ex → St → Option R) : decimal_shifted_3_0_rr (decimal_shifted_3_0_L) x y K = decimal_shifted_3_0_A K (decimal_shifted_3_0_f x y) (decimal_shifted_3_0_d x y) := by kernel_rfl
theorem decimal_shifted_3_0_ok {R : Type} (other : LSpec R) (ho : LsOk tt (decimal_shifted_E R decimal_within_int) (decimal_shifted_T R decimal_shifted_3_0_L) 0 ((loopsOf (codeOf Try.f99)).getD 0 .skip) decimal_shifted_3_0_h other) : LsOk tt (decimal_shifted_E R decimal_within_int) (decimal_shifted_T R decimal_shifted_3_0_L) 0 ((loopsOf (codeOf Try.f99)).getD 0 .skip) decimal_shifted_3_0_h (loopBy decimal_shifted_3_0_p decimal_shifted_3_0_q (decimal_shifted_3_0_rr (decimal_shifted_3_0_L)) other) :=
  loopBy_tie (A := decimal_shifted_3_0_A) ho (loop_tie decimal_shifted_3_0_enc (decimal_shifted_3_0_s decimal_within_int) (decimal_shifted_3_0_A) (decimal_shifted_3_0_A_zero) (decimal_shifted_3_0_B_ok decimal_within_int decimal_shifted_3_0_L) (decimal_shifted_3_0_A_succ)) decimal_shifted_3_0_f decimal_shifted_3_0_d decimal_shifted_3_0_e_ok (decimal_shifted_3_0_r_ok)

noncomputable def decimal_shifted_X {R : Type} (decimal_shifted_3_0_L : decimal_shifted_3_0_ty R) (x1 : Dcm) (x2 : Int) (k0 : Int → Bool → Option R) : Option R :=
  decimal_shifted_3_0_L (Int.natAbs x1.mant + Int.natAbs (IntKind.i64.wrap (x1.exp - x2)) + Int.natAbs 0 + 3) x1.mant (IntKind.i64.wrap (x1.exp - x2)) 0 (fun y7 => k0 y7 true) (fun y8 y9 y10 => k0 y8 y9)
noncomputable def decimal_shifted {R : Type} : decimal_shifted_ty R := fun x1 x2 k0 => decimal_shifted_X decimal_shifted_3_0_L x1 x2 k0
theorem decimal_shifted_ok {R : Type} (decimal_within_int : decimal_within_int_ty R) (decimal_shifted_3_0_L : decimal_shifted_3_0_ty R) (x1 : Dcm) (x2 : Int) (k : V → Heap → Option R) : funK tt (decimal_shifted_E R decimal_within_int) (decimal_shifted_T R decimal_shifted_3_0_L) false Try.f99 (codeOf Try.f99) [.agg [.int .i64 x1.mant, .int .i64 x1.exp], .int .i64 x2] [] k =
    decimal_shifted_X decimal_shifted_3_0_L x1 x2 (fun q0 q1 => k (.tuple [.int .i64 q0, .bool q1]) []) := by kernel_rfl
theorem decimal_shifted_loops (R : Type) : ∀ a ∈ loopsOf (codeOf Try.f99), LoopOk tt (decimal_shifted_E R decimal_within_int) (decimal_shifted_T R decimal_shifted_3_0_L) 0 a := by
  refine loops_ok 1 (by kernel_rfl) fun i hi => ?_
  match i, hi with
  | 0, _ => exact loopOk_some (by kernel_rfl) (decimal_shifted_3_0_ok _ loopNo_ok)
  | n + 1, hi => omega
theorem decimal_shifted_S_ok (R : Type) (other : Yard.Spec R) (ho : Yard.Spec.Ok Try.prog 99 other) : Yard.Spec.Ok Try.prog 99 (specBy decimal_shifted_p decimal_shifted_q (decimal_shifted_rr decimal_shifted) other) :=
  specBy_ok ho (funK_sound TT mixed (decimal_shifted_EOk R) (keep := false) rfl rfl rfl rfl 0 (decimal_shifted_loops R)) fun (x : Pat.dens decimal_shifted_p) (y : HPat.dens decimal_shifted_q) k => decimal_shifted_ok decimal_within_int decimal_shifted_3_0_L (⟨x.1.1, x.1.2.1⟩ : Dcm) x.2.1 k

/-! ### humpyard/decimal.Int -/
abbrev decimal_Int_ty (R : Type) : Type := Dcm → (Int → Bool → Option R) → Option R
abbrev decimal_Int_p : List Pat := [.agg [.int .i64, .int .i64]]
abbrev decimal_Int_q : List HPat := []
noncomputable def decimal_Int_rr {R : Type} (fn : decimal_Int_ty R) : Pat.dens decimal_Int_p → HPat.dens decimal_Int_q → (V → Heap → Option R) → Option R := fun x y k => fn (⟨x.1.1, x.1.2.1⟩ : Dcm) (fun q0 q1 => k (.tuple [.int .i64 q0, .bool q1]) [])
noncomputable def decimal_Int_E (R : Type) (decimal_Right : decimal_Right_ty R) (decimal_shifted : decimal_shifted_ty R) : Env R := fun i => match i with
  | 98 => some (true, (specBy decimal_Right_p decimal_Right_q (decimal_Right_rr decimal_Right) specNo))
  | 99 => some (true, (specBy decimal_shifted_p decimal_shifted_q (decimal_shifted_rr decimal_shifted) specNo))
  | _ => none
theorem decimal_Int_EOk (R : Type) : EOk Try.prog (decimal_Int_E R decimal_Right decimal_shifted) := by
  intro i b sp h
  unfold decimal_Int_E at h
  split at h
  · cases h; exact (decimal_Right_S_ok R _ (specNo_ok _))
  · cases h; exact (decimal_shifted_S_ok R _ (specNo_ok _))
  · cases h

noncomputable def decimal_Int_T (R : Type) : Nat → Option (Hint × LSpec R) := fun i => match i with
  | _ => none

noncomputable def decimal_Int_X {R : Type} (decimal_Right : decimal_Right_ty R) (decimal_shifted : decimal_shifted_ty R) (x1 : Dcm) (k0 : Int → Bool → Option R) : Option R :=
  decimal_Right x1 (fun y2 => bif (!y2) then (k0 0 false) else (bif (decide (x1.exp < (0 : Int))) then (k0 0 false) else (decimal_shifted x1 0 (fun y4 y5 => k0 y4 y5))))
noncomputable def decimal_Int {R : Type} : decimal_Int_ty R := fun x1 k0 => decimal_Int_X decimal_Right decimal_shifted x1 k0
theorem decimal_Int_ok {R : Type} (decimal_Right : decimal_Right_ty R) (decimal_shifted : decimal_shifted_ty R) (x1 : Dcm) (k : V → Heap → Option R) : funK tt (decimal_Int_E R decimal_Right decimal_shifted) (decimal_Int_T R) false Try.f93 (codeOf Try.f93) [.agg [.int .i64 x1.mant, .int .i64 x1.exp]] [] k =
    decimal_Int_X decimal_Right decimal_shifted x1 (fun q0 q1 => k (.tuple [.int .i64 q0, .bool q1]) []) := by kernel_rfl
theorem decimal_Int_loops (R : Type) : ∀ a ∈ loopsOf (codeOf Try.f93), LoopOk tt (decimal_Int_E R decimal_Right decimal_shifted) (decimal_Int_T R) 0 a := by
  refine loops_ok 0 (by kernel_rfl) fun i hi => ?_
  omega
theorem decimal_Int_S_ok (R : Type) (other : Yard.Spec R) (ho : Yard.Spec.Ok Try.prog 93 other) : Yard.Spec.Ok Try.prog 93 (specBy decimal_Int_p decimal_Int_q (decimal_Int_rr decimal_Int) other) :=
  specBy_ok ho (funK_sound TT mixed (decimal_Int_EOk R) (keep := false) rfl rfl rfl rfl 0 (decimal_Int_loops R)) fun (x : Pat.dens decimal_Int_p) (y : HPat.dens decimal_Int_q) k => decimal_Int_ok decimal_Right decimal_shifted (⟨x.1.1, x.1.2.1⟩ : Dcm) k

/-! ### humpyard/field.num -/
abbrev field_num_ty (R : Type) : Type := Json → (Int → Bool → Option R) → Option R
abbrev field_num_p : List Pat := [.agg [.int .i64, .int .i64, .int .i64, .str, .sl .str, .sl .json]]
abbrev field_num_q : List HPat := []
noncomputable def field_num_rr {R : Type} (fn : field_num_ty R) : Pat.dens field_num_p → HPat.dens field_num_q → (V → Heap → Option R) → Option R := fun x y k => fn (⟨x.1.1, ⟨x.1.2.1, x.1.2.2.1⟩, x.1.2.2.2.1, x.1.2.2.2.2.1, x.1.2.2.2.2.2.1⟩ : Json) (fun q0 q1 => k (.tuple [.int .i64 q0, .bool q1]) [])
noncomputable def field_num_E (R : Type) (decimal_Int : decimal_Int_ty R) : Env R := fun i => match i with
  | 93 => some (true, (specBy decimal_Int_p decimal_Int_q (decimal_Int_rr decimal_Int) specNo))
  | _ => none
theorem field_num_EOk (R : Type) : EOk Try.prog (field_num_E R decimal_Int) := by
  intro i b sp h
  unfold field_num_E at h
  split at h
  · cases h; exact (decimal_Int_S_ok R _ (specNo_ok _))
  · cases h

noncomputable def field_num_T (R : Type) : Nat → Option (Hint × LSpec R) := fun i => match i with
  | _ => none

noncomputable def field_num_X {R : Type} (decimal_Int : decimal_Int_ty R) (x1 : Json) (k0 : Int → Bool → Option R) : Option R :=
  decimal_Int x1.num (fun y2 y3 => bif y3 then (k0 y2 (x1.kind == 4)) else (k0 y2 false))
noncomputable def field_num {R : Type} : field_num_ty R := fun x1 k0 => field_num_X decimal_Int x1 k0
theorem field_num_ok {R : Type} (decimal_Int : decimal_Int_ty R) (x1 : Json) (k : V → Heap → Option R) : funK tt (field_num_E R decimal_Int) (field_num_T R) false Try.f73 (codeOf Try.f73) [.agg [.int .i64 x1.kind, .int .i64 x1.num.mant, .int .i64 x1.num.exp, .str x1.text, .sl .str x1.names .no, .sl .json x1.items .no]] [] k =
    field_num_X decimal_Int x1 (fun q0 q1 => k (.tuple [.int .i64 q0, .bool q1]) []) := by kernel_rfl
theorem field_num_loops (R : Type) : ∀ a ∈ loopsOf (codeOf Try.f73), LoopOk tt (field_num_E R decimal_Int) (field_num_T R) 0 a := by
  refine loops_ok 0 (by kernel_rfl) fun i hi => ?_
  omega
theorem field_num_S_ok (R : Type) (other : Yard.Spec R) (ho : Yard.Spec.Ok Try.prog 73 other) : Yard.Spec.Ok Try.prog 73 (specBy field_num_p field_num_q (field_num_rr field_num) other) :=
  specBy_ok ho (funK_sound TT mixed (field_num_EOk R) (keep := false) rfl rfl rfl rfl 0 (field_num_loops R)) fun (x : Pat.dens field_num_p) (y : HPat.dens field_num_q) k => field_num_ok decimal_Int (⟨x.1.1, ⟨x.1.2.1, x.1.2.2.1⟩, x.1.2.2.2.1, x.1.2.2.2.2.1, x.1.2.2.2.2.2.1⟩ : Json) k

/-! ### humpyard/field.of[int] -/
abbrev field_of_int_b5fb_ty (R : Type) : Type := Json → Str → (Int → Bool → Option R) → Option R
abbrev field_of_int_b5fb_p : List Pat := [.agg [.int .i64, .int .i64, .int .i64, .str, .sl .str, .sl .json], .leaf (.str), .leaf (.fn 73)]
abbrev field_of_int_b5fb_q : List HPat := []
noncomputable def field_of_int_b5fb_rr {R : Type} (fn : field_of_int_b5fb_ty R) : Pat.dens field_of_int_b5fb_p → HPat.dens field_of_int_b5fb_q → (V → Heap → Option R) → Option R := fun x y k => fn (⟨x.1.1, ⟨x.1.2.1, x.1.2.2.1⟩, x.1.2.2.2.1, x.1.2.2.2.2.1, x.1.2.2.2.2.2.1⟩ : Json) x.2.1 (fun q0 q1 => k (.tuple [.int .i64 q0, .bool q1]) [])
noncomputable def field_of_int_b5fb_E (R : Type) (field_find : field_find_ty R) (field_num : field_num_ty R) : Env R := fun i => match i with
  | 68 => some (true, (specBy field_find_p field_find_q (field_find_rr field_find) specNo))
  | 73 => some (true, (specBy field_num_p field_num_q (field_num_rr field_num) specNo))
  | _ => none
theorem field_of_int_b5fb_EOk (R : Type) : EOk Try.prog (field_of_int_b5fb_E R field_find field_num) := by
  intro i b sp h
  unfold field_of_int_b5fb_E at h
  split at h
  · cases h; exact (field_find_S_ok R _ (specNo_ok _))
  · cases h; exact (field_num_S_ok R _ (specNo_ok _))
  · cases h

noncomputable def field_of_int_b5fb_T (R : Type) : Nat → Option (Hint × LSpec R) := fun i => match i with
  | _ => none

noncomputable def field_of_int_b5fb_X {R : Type} (field_find : field_find_ty R) (field_num : field_num_ty R) (x1 : Json) (x2 : Str) (k0 : Int → Bool → Option R) : Option R :=
  field_find (⟨x1.kind, ⟨x1.num.mant, x1.num.exp⟩, x1.text, x1.names, x1.items⟩ : Json) x2 (fun y3 y4 => bif (!y4) then (k0 0 false) else (field_num (⟨y3.kind, ⟨y3.num.mant, y3.num.exp⟩, y3.text, y3.names, y3.items⟩ : Json) (fun y5 y6 => bif y6 then (k0 y5 true) else (k0 0 false))))
noncomputable def field_of_int_b5fb {R : Type} : field_of_int_b5fb_ty R := fun x1 x2 k0 => field_of_int_b5fb_X field_find field_num x1 x2 k0
theorem field_of_int_b5fb_ok {R : Type} (field_find : field_find_ty R) (field_num : field_num_ty R) (x1 : Json) (x2 : Str) (k : V → Heap → Option R) : funK tt (field_of_int_b5fb_E R field_find field_num) (field_of_int_b5fb_T R) false Try.f72 (codeOf Try.f72) [.agg [.int .i64 x1.kind, .int .i64 x1.num.mant, .int .i64 x1.num.exp, .str x1.text, .sl .str x1.names .no, .sl .json x1.items .no], .str x2, .func 73 [] []] [] k =
    field_of_int_b5fb_X field_find field_num x1 x2 (fun q0 q1 => k (.tuple [.int .i64 q0, .bool q1]) []) := by kernel_rfl
theorem field_of_int_b5fb_loops (R : Type) : ∀ a ∈ loopsOf (codeOf Try.f72), LoopOk tt (field_of_int_b5fb_E R field_find field_num) (field_of_int_b5fb_T R) 0 a := by
  refine loops_ok 0 (by kernel_rfl) fun i hi => ?_
  omega
theorem field_of_int_b5fb_S_ok (R : Type) (other : Yard.Spec R) (ho : Yard.Spec.Ok Try.prog 72 other) : Yard.Spec.Ok Try.prog 72 (specBy field_of_int_b5fb_p field_of_int_b5fb_q (field_of_int_b5fb_rr field_of_int_b5fb) other) :=
  specBy_ok ho (funK_sound TT mixed (field_of_int_b5fb_EOk R) (keep := false) rfl rfl rfl rfl 0 (field_of_int_b5fb_loops R)) fun (x : Pat.dens field_of_int_b5fb_p) (y : HPat.dens field_of_int_b5fb_q) k => field_of_int_b5fb_ok field_find field_num (⟨x.1.1, ⟨x.1.2.1, x.1.2.2.1⟩, x.1.2.2.2.1, x.1.2.2.2.2.1, x.1.2.2.2.2.2.1⟩ : Json) x.2.1 k

/-! ### humpyard/field.Num -/
abbrev field_Num_ty (R : Type) : Type := Json → Str → (Int → Bool → Option R) → Option R
abbrev field_Num_p : List Pat := [.agg [.int .i64, .int .i64, .int .i64, .str, .sl .str, .sl .json], .leaf (.str)]
abbrev field_Num_q : List HPat := []
noncomputable def field_Num_rr {R : Type} (fn : field_Num_ty R) : Pat.dens field_Num_p → HPat.dens field_Num_q → (V → Heap → Option R) → Option R := fun x y k => fn (⟨x.1.1, ⟨x.1.2.1, x.1.2.2.1⟩, x.1.2.2.2.1, x.1.2.2.2.2.1, x.1.2.2.2.2.2.1⟩ : Json) x.2.1 (fun q0 q1 => k (.tuple [.int .i64 q0, .bool q1]) [])
noncomputable def field_Num_E (R : Type) (field_of_int_b5fb : field_of_int_b5fb_ty R) : Env R := fun i => match i with
  | 72 => some (true, (specBy field_of_int_b5fb_p field_of_int_b5fb_q (field_of_int_b5fb_rr field_of_int_b5fb) specNo))
  | _ => none
theorem field_Num_EOk (R : Type) : EOk Try.prog (field_Num_E R field_of_int_b5fb) := by
  intro i b sp h
  unfold field_Num_E at h
  split at h
  · cases h; exact (field_of_int_b5fb_S_ok R _ (specNo_ok _))
  · cases h

noncomputable def field_Num_T (R : Type) : Nat → Option (Hint × LSpec R) := fun i => match i with
  | _ => none

noncomputable def field_Num_X {R : Type} (field_of_int_b5fb : field_of_int_b5fb_ty R) (x1 : Json) (x2 : Str) (k0 : Int → Bool → Option R) : Option R :=
  field_of_int_b5fb (⟨x1.kind, ⟨x1.num.mant, x1.num.exp⟩, x1.text, x1.names, x1.items⟩ : Json) x2 (fun y3 y4 => k0 y3 y4)
noncomputable def field_Num {R : Type} : field_Num_ty R := fun x1 x2 k0 => field_Num_X field_of_int_b5fb x1 x2 k0
theorem field_Num_ok {R : Type} (field_of_int_b5fb : field_of_int_b5fb_ty R) (x1 : Json) (x2 : Str) (k : V → Heap → Option R) : funK tt (field_Num_E R field_of_int_b5fb) (field_Num_T R) false Try.f28 (codeOf Try.f28) [.agg [.int .i64 x1.kind, .int .i64 x1.num.mant, .int .i64 x1.num.exp, .str x1.text, .sl .str x1.names .no, .sl .json x1.items .no], .str x2] [] k =
    field_Num_X field_of_int_b5fb x1 x2 (fun q0 q1 => k (.tuple [.int .i64 q0, .bool q1]) []) := by kernel_rfl
theorem field_Num_loops (R : Type) : ∀ a ∈ loopsOf (codeOf Try.f28), LoopOk tt (field_Num_E R field_of_int_b5fb) (field_Num_T R) 0 a := by
  refine loops_ok 0 (by kernel_rfl) fun i hi => ?_
  omega
theorem field_Num_S_ok (R : Type) (other : Yard.Spec R) (ho : Yard.Spec.Ok Try.prog 28 other) : Yard.Spec.Ok Try.prog 28 (specBy field_Num_p field_Num_q (field_Num_rr field_Num) other) :=
  specBy_ok ho (funK_sound TT mixed (field_Num_EOk R) (keep := false) rfl rfl rfl rfl 0 (field_Num_loops R)) fun (x : Pat.dens field_Num_p) (y : HPat.dens field_Num_q) k => field_Num_ok field_of_int_b5fb (⟨x.1.1, ⟨x.1.2.1, x.1.2.2.1⟩, x.1.2.2.2.1, x.1.2.2.2.2.1, x.1.2.2.2.2.2.1⟩ : Json) x.2.1 k

/-! ### humpyard/field.Text$1 -/
abbrev field_Text_1_ty (R : Type) : Type := Json → (Str → Bool → Option R) → Option R
abbrev field_Text_1_p : List Pat := [.agg [.int .i64, .int .i64, .int .i64, .str, .sl .str, .sl .json]]
abbrev field_Text_1_q : List HPat := []
noncomputable def field_Text_1_rr {R : Type} (fn : field_Text_1_ty R) : Pat.dens field_Text_1_p → HPat.dens field_Text_1_q → (V → Heap → Option R) → Option R := fun x y k => fn (⟨x.1.1, ⟨x.1.2.1, x.1.2.2.1⟩, x.1.2.2.2.1, x.1.2.2.2.2.1, x.1.2.2.2.2.2.1⟩ : Json) (fun q0 q1 => k (.tuple [.str q0, .bool q1]) [])
noncomputable def field_Text_1_E (R : Type) : Env R := fun i => match i with
  | _ => none
theorem field_Text_1_EOk (R : Type) : EOk Try.prog (field_Text_1_E R) := by
  intro i b sp h
  unfold field_Text_1_E at h
  split at h
  · cases h

noncomputable def field_Text_1_T (R : Type) : Nat → Option (Hint × LSpec R) := fun i => match i with
  | _ => none

noncomputable def field_Text_1_X {R : Type} (x1 : Json) (k0 : Str → Bool → Option R) : Option R :=
  k0 x1.text (x1.kind == 5)
noncomputable def field_Text_1 {R : Type} : field_Text_1_ty R := fun x1 k0 => field_Text_1_X x1 k0
theorem field_Text_1_ok {R : Type} (x1 : Json) (k : V → Heap → Option R) : funK tt (field_Text_1_E R) (field_Text_1_T R) false Try.f75 (codeOf Try.f75) [.agg [.int .i64 x1.kind, .int .i64 x1.num.mant, .int .i64 x1.num.exp, .str x1.text, .sl .str x1.names .no, .sl .json x1.items .no]] [] k =
    field_Text_1_X x1 (fun q0 q1 => k (.tuple [.str q0, .bool q1]) []) := by kernel_rfl
theorem field_Text_1_loops (R : Type) : ∀ a ∈ loopsOf (codeOf Try.f75), LoopOk tt (field_Text_1_E R) (field_Text_1_T R) 0 a := by
  refine loops_ok 0 (by kernel_rfl) fun i hi => ?_
  omega
theorem field_Text_1_S_ok (R : Type) (other : Yard.Spec R) (ho : Yard.Spec.Ok Try.prog 75 other) : Yard.Spec.Ok Try.prog 75 (specBy field_Text_1_p field_Text_1_q (field_Text_1_rr field_Text_1) other) :=
  specBy_ok ho (funK_sound TT mixed (field_Text_1_EOk R) (keep := false) rfl rfl rfl rfl 0 (field_Text_1_loops R)) fun (x : Pat.dens field_Text_1_p) (y : HPat.dens field_Text_1_q) k => field_Text_1_ok (⟨x.1.1, ⟨x.1.2.1, x.1.2.2.1⟩, x.1.2.2.2.1, x.1.2.2.2.2.1, x.1.2.2.2.2.2.1⟩ : Json) k

/-! ### humpyard/field.of[string] -/
abbrev field_of_string_d6f4_ty (R : Type) : Type := Json → Str → (Str → Bool → Option R) → Option R
abbrev field_of_string_d6f4_p : List Pat := [.agg [.int .i64, .int .i64, .int .i64, .str, .sl .str, .sl .json], .leaf (.str), .leaf (.fn 75)]
abbrev field_of_string_d6f4_q : List HPat := []
noncomputable def field_of_string_d6f4_rr {R : Type} (fn : field_of_string_d6f4_ty R) : Pat.dens field_of_string_d6f4_p → HPat.dens field_of_string_d6f4_q → (V → Heap → Option R) → Option R := fun x y k => fn (⟨x.1.1, ⟨x.1.2.1, x.1.2.2.1⟩, x.1.2.2.2.1, x.1.2.2.2.2.1, x.1.2.2.2.2.2.1⟩ : Json) x.2.1 (fun q0 q1 => k (.tuple [.str q0, .bool q1]) [])
noncomputable def field_of_string_d6f4_E (R : Type) (field_find : field_find_ty R) (field_Text_1 : field_Text_1_ty R) : Env R := fun i => match i with
  | 68 => some (true, (specBy field_find_p field_find_q (field_find_rr field_find) specNo))
  | 75 => some (true, (specBy field_Text_1_p field_Text_1_q (field_Text_1_rr field_Text_1) specNo))
  | _ => none
theorem field_of_string_d6f4_EOk (R : Type) : EOk Try.prog (field_of_string_d6f4_E R field_find field_Text_1) := by
  intro i b sp h
  unfold field_of_string_d6f4_E at h
  split at h
  · cases h; exact (field_find_S_ok R _ (specNo_ok _))
  · cases h; exact (field_Text_1_S_ok R _ (specNo_ok _))
  · cases h

noncomputable def field_of_string_d6f4_T (R : Type) : Nat → Option (Hint × LSpec R) := fun i => match i with
  | _ => none

noncomputable def field_of_string_d6f4_X {R : Type} (field_find : field_find_ty R) (field_Text_1 : field_Text_1_ty R) (x1 : Json) (x2 : Str) (k0 : Str → Bool → Option R) : Option R :=
  field_find (⟨x1.kind, ⟨x1.num.mant, x1.num.exp⟩, x1.text, x1.names, x1.items⟩ : Json) x2 (fun y3 y4 => bif (!y4) then (k0 ([] : Str) false) else (field_Text_1 (⟨y3.kind, ⟨y3.num.mant, y3.num.exp⟩, y3.text, y3.names, y3.items⟩ : Json) (fun y5 y6 => bif y6 then (k0 y5 true) else (k0 ([] : Str) false))))
noncomputable def field_of_string_d6f4 {R : Type} : field_of_string_d6f4_ty R := fun x1 x2 k0 => field_of_string_d6f4_X field_find field_Text_1 x1 x2 k0
theorem field_of_string_d6f4_ok {R : Type} (field_find : field_find_ty R) (field_Text_1 : field_Text_1_ty R) (x1 : Json) (x2 : Str) (k : V → Heap → Option R) : funK tt (field_of_string_d6f4_E R field_find field_Text_1) (field_of_string_d6f4_T R) false Try.f74 (codeOf Try.f74) [.agg [.int .i64 x1.kind, .int .i64 x1.num.mant, .int .i64 x1.num.exp, .str x1.text, .sl .str x1.names .no, .sl .json x1.items .no], .str x2, .func 75 [] []] [] k =
    field_of_string_d6f4_X field_find field_Text_1 x1 x2 (fun q0 q1 => k (.tuple [.str q0, .bool q1]) []) := by kernel_rfl
theorem field_of_string_d6f4_loops (R : Type) : ∀ a ∈ loopsOf (codeOf Try.f74), LoopOk tt (field_of_string_d6f4_E R field_find field_Text_1) (field_of_string_d6f4_T R) 0 a := by
  refine loops_ok 0 (by kernel_rfl) fun i hi => ?_
  omega
theorem field_of_string_d6f4_S_ok (R : Type) (other : Yard.Spec R) (ho : Yard.Spec.Ok Try.prog 74 other) : Yard.Spec.Ok Try.prog 74 (specBy field_of_string_d6f4_p field_of_string_d6f4_q (field_of_string_d6f4_rr field_of_string_d6f4) other) :=
  specBy_ok ho (funK_sound TT mixed (field_of_string_d6f4_EOk R) (keep := false) rfl rfl rfl rfl 0 (field_of_string_d6f4_loops R)) fun (x : Pat.dens field_of_string_d6f4_p) (y : HPat.dens field_of_string_d6f4_q) k => field_of_string_d6f4_ok field_find field_Text_1 (⟨x.1.1, ⟨x.1.2.1, x.1.2.2.1⟩, x.1.2.2.2.1, x.1.2.2.2.2.1, x.1.2.2.2.2.2.1⟩ : Json) x.2.1 k

/-! ### humpyard/field.Text -/
abbrev field_Text_ty (R : Type) : Type := Json → Str → (Str → Bool → Option R) → Option R
abbrev field_Text_p : List Pat := [.agg [.int .i64, .int .i64, .int .i64, .str, .sl .str, .sl .json], .leaf (.str)]
abbrev field_Text_q : List HPat := []
noncomputable def field_Text_rr {R : Type} (fn : field_Text_ty R) : Pat.dens field_Text_p → HPat.dens field_Text_q → (V → Heap → Option R) → Option R := fun x y k => fn (⟨x.1.1, ⟨x.1.2.1, x.1.2.2.1⟩, x.1.2.2.2.1, x.1.2.2.2.2.1, x.1.2.2.2.2.2.1⟩ : Json) x.2.1 (fun q0 q1 => k (.tuple [.str q0, .bool q1]) [])
noncomputable def field_Text_E (R : Type) (field_of_string_d6f4 : field_of_string_d6f4_ty R) : Env R := fun i => match i with
  | 74 => some (true, (specBy field_of_string_d6f4_p field_of_string_d6f4_q (field_of_string_d6f4_rr field_of_string_d6f4) specNo))
  | _ => none
theorem field_Text_EOk (R : Type) : EOk Try.prog (field_Text_E R field_of_string_d6f4) := by
  intro i b sp h
  unfold field_Text_E at h
  split at h
  · cases h; exact (field_of_string_d6f4_S_ok R _ (specNo_ok _))
  · cases h

noncomputable def field_Text_T (R : Type) : Nat → Option (Hint × LSpec R) := fun i => match i with
  | _ => none

noncomputable def field_Text_X {R : Type} (field_of_string_d6f4 : field_of_string_d6f4_ty R) (x1 : Json) (x2 : Str) (k0 : Str → Bool → Option R) : Option R :=
  field_of_string_d6f4 (⟨x1.kind, ⟨x1.num.mant, x1.num.exp⟩, x1.text, x1.names, x1.items⟩ : Json) x2 (fun y3 y4 => k0 y3 y4)
noncomputable def field_Text {R : Type} : field_Text_ty R := fun x1 x2 k0 => field_Text_X field_of_string_d6f4 x1 x2 k0
theorem field_Text_ok {R : Type} (field_of_string_d6f4 : field_of_string_d6f4_ty R) (x1 : Json) (x2 : Str) (k : V → Heap → Option R) : funK tt (field_Text_E R field_of_string_d6f4) (field_Text_T R) false Try.f29 (codeOf Try.f29) [.agg [.int .i64 x1.kind, .int .i64 x1.num.mant, .int .i64 x1.num.exp, .str x1.text, .sl .str x1.names .no, .sl .json x1.items .no], .str x2] [] k =
    field_Text_X field_of_string_d6f4 x1 x2 (fun q0 q1 => k (.tuple [.str q0, .bool q1]) []) := by kernel_rfl
theorem field_Text_loops (R : Type) : ∀ a ∈ loopsOf (codeOf Try.f29), LoopOk tt (field_Text_E R field_of_string_d6f4) (field_Text_T R) 0 a := by
  refine loops_ok 0 (by kernel_rfl) fun i hi => ?_
  omega
theorem field_Text_S_ok (R : Type) (other : Yard.Spec R) (ho : Yard.Spec.Ok Try.prog 29 other) : Yard.Spec.Ok Try.prog 29 (specBy field_Text_p field_Text_q (field_Text_rr field_Text) other) :=
  specBy_ok ho (funK_sound TT mixed (field_Text_EOk R) (keep := false) rfl rfl rfl rfl 0 (field_Text_loops R)) fun (x : Pat.dens field_Text_p) (y : HPat.dens field_Text_q) k => field_Text_ok field_of_string_d6f4 (⟨x.1.1, ⟨x.1.2.1, x.1.2.2.1⟩, x.1.2.2.2.1, x.1.2.2.2.2.1, x.1.2.2.2.2.2.1⟩ : Json) x.2.1 k

/-! ### humpyard/field.flag -/
abbrev field_flag_ty (R : Type) : Type := Json → (Bool → Bool → Option R) → Option R
abbrev field_flag_p : List Pat := [.agg [.int .i64, .int .i64, .int .i64, .str, .sl .str, .sl .json]]
abbrev field_flag_q : List HPat := []
noncomputable def field_flag_rr {R : Type} (fn : field_flag_ty R) : Pat.dens field_flag_p → HPat.dens field_flag_q → (V → Heap → Option R) → Option R := fun x y k => fn (⟨x.1.1, ⟨x.1.2.1, x.1.2.2.1⟩, x.1.2.2.2.1, x.1.2.2.2.2.1, x.1.2.2.2.2.2.1⟩ : Json) (fun q0 q1 => k (.tuple [.bool q0, .bool q1]) [])
noncomputable def field_flag_E (R : Type) : Env R := fun i => match i with
  | _ => none
theorem field_flag_EOk (R : Type) : EOk Try.prog (field_flag_E R) := by
  intro i b sp h
  unfold field_flag_E at h
  split at h
  · cases h

noncomputable def field_flag_T (R : Type) : Nat → Option (Hint × LSpec R) := fun i => match i with
  | _ => none

noncomputable def field_flag_X {R : Type} (x1 : Json) (k0 : Bool → Bool → Option R) : Option R :=
  bif (x1.kind == 3) then (k0 (x1.kind == 3) true) else (k0 (x1.kind == 3) (x1.kind == 2))
noncomputable def field_flag {R : Type} : field_flag_ty R := fun x1 k0 => field_flag_X x1 k0
theorem field_flag_ok {R : Type} (x1 : Json) (k : V → Heap → Option R) : funK tt (field_flag_E R) (field_flag_T R) false Try.f77 (codeOf Try.f77) [.agg [.int .i64 x1.kind, .int .i64 x1.num.mant, .int .i64 x1.num.exp, .str x1.text, .sl .str x1.names .no, .sl .json x1.items .no]] [] k =
    field_flag_X x1 (fun q0 q1 => k (.tuple [.bool q0, .bool q1]) []) := by kernel_rfl
theorem field_flag_loops (R : Type) : ∀ a ∈ loopsOf (codeOf Try.f77), LoopOk tt (field_flag_E R) (field_flag_T R) 0 a := by
  refine loops_ok 0 (by kernel_rfl) fun i hi => ?_
  omega
theorem field_flag_S_ok (R : Type) (other : Yard.Spec R) (ho : Yard.Spec.Ok Try.prog 77 other) : Yard.Spec.Ok Try.prog 77 (specBy field_flag_p field_flag_q (field_flag_rr field_flag) other) :=
  specBy_ok ho (funK_sound TT mixed (field_flag_EOk R) (keep := false) rfl rfl rfl rfl 0 (field_flag_loops R)) fun (x : Pat.dens field_flag_p) (y : HPat.dens field_flag_q) k => field_flag_ok (⟨x.1.1, ⟨x.1.2.1, x.1.2.2.1⟩, x.1.2.2.2.1, x.1.2.2.2.2.1, x.1.2.2.2.2.2.1⟩ : Json) k

/-! ### humpyard/field.fits -/
abbrev field_fits_ty (R : Type) : Type := Json → Fld → (Bool → Option R) → Option R
abbrev field_fits_p : List Pat := [.agg [.int .i64, .int .i64, .int .i64, .str, .sl .str, .sl .json], .agg [.str, .int .i64, .int .i64, .int .i64, .bool]]
abbrev field_fits_q : List HPat := []
noncomputable def field_fits_rr {R : Type} (fn : field_fits_ty R) : Pat.dens field_fits_p → HPat.dens field_fits_q → (V → Heap → Option R) → Option R := fun x y k => fn (⟨x.1.1, ⟨x.1.2.1, x.1.2.2.1⟩, x.1.2.2.2.1, x.1.2.2.2.2.1, x.1.2.2.2.2.2.1⟩ : Json) (⟨x.2.1.1, x.2.1.2.1, x.2.1.2.2.1, x.2.1.2.2.2.1, x.2.1.2.2.2.2.1⟩ : Fld) (fun q0 => k (.bool q0) [])
noncomputable def field_fits_E (R : Type) (field_num : field_num_ty R) (field_flag : field_flag_ty R) : Env R := fun i => match i with
  | 73 => some (true, (specBy field_num_p field_num_q (field_num_rr field_num) specNo))
  | 77 => some (true, (specBy field_flag_p field_flag_q (field_flag_rr field_flag) specNo))
  | _ => none
theorem field_fits_EOk (R : Type) : EOk Try.prog (field_fits_E R field_num field_flag) := by
  intro i b sp h
  unfold field_fits_E at h
  split at h
  · cases h; exact (field_num_S_ok R _ (specNo_ok _))
  · cases h; exact (field_flag_S_ok R _ (specNo_ok _))
  · cases h

noncomputable def field_fits_T (R : Type) : Nat → Option (Hint × LSpec R) := fun i => match i with
  | _ => none

noncomputable def field_fits_X {R : Type} (field_num : field_num_ty R) (field_flag : field_flag_ty R) (x1 : Json) (x2 : Fld) (k0 : Bool → Option R) : Option R :=
  bif (x2.kind == 8) then (field_flag (⟨x1.kind, ⟨x1.num.mant, x1.num.exp⟩, x1.text, x1.names, x1.items⟩ : Json) (fun y3 y4 => k0 y4)) else (bif (x2.kind == 4) then (field_num (⟨x1.kind, ⟨x1.num.mant, x1.num.exp⟩, x1.text, x1.names, x1.items⟩ : Json) (fun y5 y6 => bif y6 then (bif (decide (y5 ≥ x2.low)) then (k0 (decide (y5 ≤ x2.high))) else (k0 false)) else (k0 false))) else (bif (x2.kind == 5) then (bif (x1.kind == x2.kind) then (bif (decide ((x1.text.length : Int) ≥ x2.low)) then (k0 (decide ((x1.text.length : Int) ≤ x2.high))) else (k0 false)) else (k0 false)) else (bif (x2.kind == 6) then (bif (x1.kind == x2.kind) then (bif (decide ((x1.items.length : Int) ≥ x2.low)) then (k0 (decide ((x1.items.length : Int) ≤ x2.high))) else (k0 false)) else (k0 false)) else (k0 (x1.kind == x2.kind)))))
noncomputable def field_fits {R : Type} : field_fits_ty R := fun x1 x2 k0 => field_fits_X field_num field_flag x1 x2 k0
theorem field_fits_ok {R : Type} (field_num : field_num_ty R) (field_flag : field_flag_ty R) (x1 : Json) (x2 : Fld) (k : V → Heap → Option R) : funK tt (field_fits_E R field_num field_flag) (field_fits_T R) false Try.f69 (codeOf Try.f69) [.agg [.int .i64 x1.kind, .int .i64 x1.num.mant, .int .i64 x1.num.exp, .str x1.text, .sl .str x1.names .no, .sl .json x1.items .no], .agg [.str x2.name, .int .i64 x2.kind, .int .i64 x2.low, .int .i64 x2.high, .bool x2.free]] [] k =
    field_fits_X field_num field_flag x1 x2 (fun q0 => k (.bool q0) []) := by kernel_rfl
theorem field_fits_loops (R : Type) : ∀ a ∈ loopsOf (codeOf Try.f69), LoopOk tt (field_fits_E R field_num field_flag) (field_fits_T R) 0 a := by
  refine loops_ok 0 (by kernel_rfl) fun i hi => ?_
  omega
theorem field_fits_S_ok (R : Type) (other : Yard.Spec R) (ho : Yard.Spec.Ok Try.prog 69 other) : Yard.Spec.Ok Try.prog 69 (specBy field_fits_p field_fits_q (field_fits_rr field_fits) other) :=
  specBy_ok ho (funK_sound TT mixed (field_fits_EOk R) (keep := false) rfl rfl rfl rfl 0 (field_fits_loops R)) fun (x : Pat.dens field_fits_p) (y : HPat.dens field_fits_q) k => field_fits_ok field_num field_flag (⟨x.1.1, ⟨x.1.2.1, x.1.2.2.1⟩, x.1.2.2.2.1, x.1.2.2.2.2.1, x.1.2.2.2.2.2.1⟩ : Json) (⟨x.2.1.1, x.2.1.2.1, x.2.1.2.2.1, x.2.1.2.2.2.1, x.2.1.2.2.2.2.1⟩ : Fld) k

end Go.Proofs.Ytcocpfgemdkkfaa

/-
  Functions of the program as pure Lean functions, and the ties; printed by wip/tools/emit.py.
-/
set_option maxRecDepth 100000
set_option linter.unusedVariables false
namespace Go.Proofs.Ytcocpfgemdkkfaa
open Go Go.Yard

/-! ### humpyard/field.Check -/
abbrev field_Check_ty (R : Type) : Type := Json → (List Fld) → (Int → Option R) → Option R
abbrev field_Check_p : List Pat := [.agg [.int .i64, .int .i64, .int .i64, .str, .sl .str, .sl .json], .leaf (.sl .fld)]
abbrev field_Check_q : List HPat := []
noncomputable def field_Check_rr {R : Type} (fn : field_Check_ty R) : Pat.dens field_Check_p → HPat.dens field_Check_q → (V → Heap → Option R) → Option R := fun x y k => fn (⟨x.1.1, ⟨x.1.2.1, x.1.2.2.1⟩, x.1.2.2.2.1, x.1.2.2.2.2.1, x.1.2.2.2.2.2.1⟩ : Json) x.2.1 (fun q0 => k (.int .i64 q0) [])
abbrev field_Check_2_0_ty (R : Type) : Type := Nat → (List Fld) → Int → Int → Json → (Option R) → (Int → Option R) → Option R
noncomputable def field_Check_E (R : Type) (field_find : field_find_ty R) (field_fits : field_fits_ty R) : Env R := fun i => match i with
  | 68 => some (true, (specBy field_find_p field_find_q (field_find_rr field_find) specNo))
  | 69 => some (true, (specBy field_fits_p field_fits_q (field_fits_rr field_fits) specNo))
  | _ => none
theorem field_Check_EOk (R : Type) : EOk Try.prog (field_Check_E R field_find field_fits) := by
  intro i b sp h
  unfold field_Check_E at h
  split at h
  · cases h; exact (field_find_S_ok R _ (specNo_ok _))
  · cases h; exact (field_fits_S_ok R _ (specNo_ok _))
  · cases h

noncomputable def field_Check_2_0_B {R : Type} (field_find : field_find_ty R) (field_fits : field_fits_ty R) (rec' : (List Fld) → Int → Int → Json → Option R) (x3 : List Fld) (x4 : Int) (x5 : Int) (x6 : Json) (e0 : Option R) (e1 : Int → Option R) : Option R :=
  bif (decide (x5 < x4)) then (chk (decide ((0 : Int) ≤ x5) && decide (x5 < x3.length)) (field_find (⟨x6.kind, ⟨x6.num.mant, x6.num.exp⟩, x6.text, x6.names, x6.items⟩ : Json) ((x3.getD x5.toNat (Ty.dflt .fld)).name) (fun y7 y8 => bif (x6.kind != 7) then (e1 x5) else (bif (!y8) then (bif (!(x3.getD x5.toNat (Ty.dflt .fld)).free) then (e1 x5) else (bif y8 then (field_fits (⟨y7.kind, ⟨y7.num.mant, y7.num.exp⟩, y7.text, y7.names, y7.items⟩ : Json) (x3.getD x5.toNat (Ty.dflt .fld)) (fun y9 => bif (!y9) then (e1 x5) else (rec' x3 x4 (IntKind.i64.wrap (x5 + 1)) (⟨x6.kind, ⟨x6.num.mant, x6.num.exp⟩, x6.text, x6.names, x6.items⟩ : Json)))) else (rec' x3 x4 (IntKind.i64.wrap (x5 + 1)) (⟨x6.kind, ⟨x6.num.mant, x6.num.exp⟩, x6.text, x6.names, x6.items⟩ : Json)))) else (bif y8 then (field_fits (⟨y7.kind, ⟨y7.num.mant, y7.num.exp⟩, y7.text, y7.names, y7.items⟩ : Json) (x3.getD x5.toNat (Ty.dflt .fld)) (fun y10 => bif (!y10) then (e1 x5) else (rec' x3 x4 (IntKind.i64.wrap (x5 + 1)) (⟨x6.kind, ⟨x6.num.mant, x6.num.exp⟩, x6.text, x6.names, x6.items⟩ : Json)))) else (rec' x3 x4 (IntKind.i64.wrap (x5 + 1)) (⟨x6.kind, ⟨x6.num.mant, x6.num.exp⟩, x6.text, x6.names, x6.items⟩ : Json))))))) else (e0)
noncomputable def field_Check_2_0_L {R : Type} : field_Check_2_0_ty R
  | 0, _, _, _, _, _, _ => none
  | n + 1, x0', x1', x2', x3', e0, e1 => field_Check_2_0_B field_find field_fits (fun x0' x1' x2' x3' => field_Check_2_0_L n x0' x1' x2' x3' e0 e1) x0' x1' x2' x3' e0 e1
noncomputable def field_Check_2_0_h : Hint := { live := [2, 9, 10, 11], own := [], rows := [], cells := [], drop := [], out := [4] }
abbrev field_Check_2_0_D : Type := (List Fld) × Int × Int × Json
noncomputable def field_Check_2_0_enc : field_Check_2_0_D → St := fun d => ⟨[.undef, .undef, .ptr 0 0, .undef, .undef, .undef, .undef, .undef, .undef, .sl .fld d.1 .no, .int .i64 d.2.1, .int .i64 d.2.2.1, .undef, .undef, .undef, .undef, .undef, .undef, .undef, .undef, .undef, .undef, .undef, .undef, .undef, .undef, .undef, .undef, .undef, .undef, .undef, .undef, .undef, .undef, .undef, .undef, .undef, .undef, .undef, .undef, .undef, .undef, .undef, .undef, .undef, .undef], [.cells [.int .i64 d.2.2.2.kind, .int .i64 d.2.2.2.num.mant, .int .i64 d.2.2.2.num.exp, .str d.2.2.2.text, .sl .str d.2.2.2.names .no, .sl .json d.2.2.2.items .no]]⟩
noncomputable def field_Check_2_0_x0 {R : Type} (K : Ex → St → Option R) : Option R := K (.exit 0) ⟨[.undef, .undef, .undef, .undef, .undef, .undef, .undef, .undef, .undef, .undef, .undef, .undef, .undef, .undef, .undef, .undef, .undef, .undef, .undef, .undef, .undef, .undef, .undef, .undef, .undef, .undef, .undef, .undef, .undef, .undef, .undef, .undef, .undef, .undef, .undef, .undef, .undef, .undef, .undef, .undef, .undef, .undef, .undef, .undef, .undef, .undef], []⟩
noncomputable def field_Check_2_0_x1 {R : Type} (K : Ex → St → Option R) (q0 : Int) : Option R := K (.ret) ⟨[.undef, .undef, .undef, .undef, .int .i64 q0, .undef, .undef, .undef, .undef, .undef, .undef, .undef, .undef, .undef, .undef, .undef, .undef, .undef, .undef, .undef, .undef, .undef, .undef, .undef, .undef, .undef, .undef, .undef, .undef, .undef, .undef, .undef, .undef, .undef, .undef, .undef, .undef, .undef, .undef, .undef, .undef, .undef, .undef, .undef, .undef, .undef], []⟩
noncomputable def field_Check_2_0_s {R : Type} (field_find : field_find_ty R) (field_fits : field_fits_ty R) (K : Ex → St → Option R) (rc : field_Check_2_0_D → Option R) (d : field_Check_2_0_D) : Option R := field_Check_2_0_B field_find field_fits (fun z0 z1 z2 z3 => rc (z0, z1, z2, z3)) d.1 d.2.1 d.2.2.1 d.2.2.2 (field_Check_2_0_x0 K) (field_Check_2_0_x1 K)
noncomputable def field_Check_2_0_A {R : Type} (K : Ex → St → Option R) (n : Nat) (d : field_Check_2_0_D) : Option R := field_Check_2_0_L n d.1 d.2.1 d.2.2.1 d.2.2.2 (field_Check_2_0_x0 K) (field_Check_2_0_x1 K)
abbrev field_Check_2_0_p : List Pat := [.leaf (.undef), .leaf (.undef), .leaf (.ptr 0 0), .leaf (.undef), .leaf (.undef), .leaf (.undef), .leaf (.undef), .leaf (.undef), .leaf (.undef), .leaf (.sl .fld), .leaf (.int .i64), .leaf (.int .i64), .leaf (.undef), .leaf (.undef), .leaf (.undef), .leaf (.undef), .leaf (.undef), .leaf (.undef), .leaf (.undef), .leaf (.undef), .leaf (.undef), .leaf (.undef), .leaf (.undef), .leaf (.undef), .leaf (.undef), .leaf (.undef), .leaf (.undef), .leaf (.undef), .leaf (.undef), .leaf (.undef), .leaf (.undef), .leaf (.undef), .leaf (.undef), .leaf (.undef), .leaf (.undef), .leaf (.undef), .leaf (.undef), .leaf (.undef), .leaf (.undef), .leaf (.undef), .leaf (.undef), .leaf (.undef), .leaf (.undef), .leaf (.undef), .leaf (.undef), .leaf (.undef)]
abbrev field_Check_2_0_q : List HPat := [.cells [.int .i64, .int .i64, .int .i64, .str, .sl .str, .sl .json]]
noncomputable def field_Check_2_0_f (x : Pat.dens field_Check_2_0_p) (y : HPat.dens field_Check_2_0_q) : Nat := (List.length x.2.2.2.2.2.2.2.2.2.1 + Int.natAbs x.2.2.2.2.2.2.2.2.2.2.1 + Int.natAbs x.2.2.2.2.2.2.2.2.2.2.2.1 + Json.fu (⟨y.1.1, ⟨y.1.2.1, y.1.2.2.1⟩, y.1.2.2.2.1, y.1.2.2.2.2.1, y.1.2.2.2.2.2.1⟩ : Json) + 3)
noncomputable def field_Check_2_0_d (x : Pat.dens field_Check_2_0_p) (y : HPat.dens field_Check_2_0_q) : field_Check_2_0_D := (x.2.2.2.2.2.2.2.2.2.1, x.2.2.2.2.2.2.2.2.2.2.1, x.2.2.2.2.2.2.2.2.2.2.2.1, (⟨y.1.1, ⟨y.1.2.1, y.1.2.2.1⟩, y.1.2.2.2.1, y.1.2.2.2.2.1, y.1.2.2.2.2.2.1⟩ : Json))
noncomputable def field_Check_2_0_rr {R : Type} (L : field_Check_2_0_ty R) : Pat.dens field_Check_2_0_p → HPat.dens field_Check_2_0_q → (Ex → St → Option R) → Option R := fun x y K => L (field_Check_2_0_f x y) x.2.2.2.2.2.2.2.2.2.1 x.2.2.2.2.2.2.2.2.2.2.1 x.2.2.2.2.2.2.2.2.2.2.2.1 (⟨y.1.1, ⟨y.1.2.1, y.1.2.2.1⟩, y.1.2.2.2.1, y.1.2.2.2.2.1, y.1.2.2.2.2.2.1⟩ : Json) (field_Check_2_0_x0 K) (field_Check_2_0_x1 K)
noncomputable def field_Check_T (R : Type) (field_Check_2_0_L : field_Check_2_0_ty R) : Nat → Option (Hint × LSpec R) := fun i => match i with
  | 2 => some (field_Check_2_0_h, (loopBy field_Check_2_0_p field_Check_2_0_q (field_Check_2_0_rr field_Check_2_0_L) loopNo))
  | _ => none

theorem field_Check_2_0_B_ok {R : Type} (field_find : field_find_ty R) (field_fits : field_fits_ty R) (field_Check_2_0_L : field_Check_2_0_ty R) (K : Ex → St → Option R) (rc : St → Option R) (d : field_Check_2_0_D) : roundOf tt (field_Check_E R field_find field_fits) (field_Check_T R field_Check_2_0_L) 0 ((loopsOf (codeOf Try.f25)).getD 0 .skip) field_Check_2_0_h (field_Check_2_0_enc d) rc K = field_Check_2_0_s field_find field_fits K (fun d => rc (field_Check_2_0_enc d)) d := by kernel_rfl
theorem field_Check_2_0_A_succ {R : Type} (K : Ex → St → Option R) (n : Nat) (d : field_Check_2_0_D) : field_Check_2_0_A K (n + 1) d = field_Check_2_0_s field_find field_fits K (field_Check_2_0_A K n) d := by kernel_rfl
theorem field_Check_2_0_A_zero {R : Type} (K : Ex → St → Option R) (d : field_Check_2_0_D) : field_Check_2_0_A K 0 d = none := by kernel_rfl
theorem field_Check_2_0_e_ok (x : Pat.dens field_Check_2_0_p) (y : HPat.dens field_Check_2_0_q) : (⟨Pat.encL field_Check_2_0_p x, HPat.encL field_Check_2_0_q y⟩ : St) = field_Check_2_0_enc (field_Check_2_0_d x y) := by kernel_rfl
theorem field_Check_2_0_r_ok {R : Type} (x : Pat.dens field_Check_2_0_p) (y : HPat.dens field_Check_2_0_q) (K : Ex → St → Option R) : field_Check_2_0_rr (field_Check_2_0_L) x y K = field_Check_2_0_A K (field_Check_2_0_f x y) (field_Check_2_0_d x y) := by kernel_rfl
theorem field_Check_2_0_ok {R : Type} (other : LSpec R) (ho : LsOk tt (field_Check_E R field_find field_fits) (field_Check_T R field_Check_2_0_L) 0 ((loopsOf (codeOf Try.f25)).getD 0 .skip) field_Check_2_0_h other) : LsOk tt (field_Check_E R field_find field_fits) (field_Check_T R field_Check_2_0_L) 0 ((loopsOf (codeOf Try.f25)).getD 0 .skip) field_Check_2_0_h (loopBy field_Check_2_0_p field_Check_2_0_q (field_Check_2_0_rr (field_Check_2_0_L)) other) :=
  loopBy_tie (A := field_Check_2_0_A) ho (loop_tie field_Check_2_0_enc (field_Check_2_0_s field_find field_fits) (field_Check_2_0_A) (field_Check_2_0_A_zero) (field_Check_2_0_B_ok field_find field_fits field_Check_2_0_L) (field_Check_2_0_A_succ)) field_Check_2_0_f field_Check_2_0_d field_Check_2_0_e_ok (field_Check_2_0_r_ok)

noncomputable def field_Check_X {R : Type} (field_Check_2_0_L : field_Check_2_0_ty R) (x1 : Json) (x2 : List Fld) (k0 : Int → Option R) : Option R :=
  field_Check_2_0_L (List.length x2 + Int.natAbs (x2.length : Int) + Int.natAbs 0 + Json.fu (⟨x1.kind, ⟨x1.num.mant, x1.num.exp⟩, x1.text, x1.names, x1.items⟩ : Json) + 3) x2 (x2.length : Int) 0 (⟨x1.kind, ⟨x1.num.mant, x1.num.exp⟩, x1.text, x1.names, x1.items⟩ : Json) (k0 (-1)) (fun y12 => k0 y12)
noncomputable def field_Check {R : Type} : field_Check_ty R := fun x1 x2 k0 => field_Check_X field_Check_2_0_L x1 x2 k0
theorem field_Check_ok {R : Type} (field_find : field_find_ty R) (field_fits : field_fits_ty R) (field_Check_2_0_L : field_Check_2_0_ty R) (x1 : Json) (x2 : List Fld) (k : V → Heap → Option R) : funK tt (field_Check_E R field_find field_fits) (field_Check_T R field_Check_2_0_L) false Try.f25 (codeOf Try.f25) [.agg [.int .i64 x1.kind, .int .i64 x1.num.mant, .int .i64 x1.num.exp, .str x1.text, .sl .str x1.names .no, .sl .json x1.items .no], .sl .fld x2 .no] [] k =
    field_Check_X field_Check_2_0_L x1 x2 (fun q0 => k (.int .i64 q0) []) := by kernel_rfl
theorem field_Check_loops (R : Type) : ∀ a ∈ loopsOf (codeOf Try.f25), LoopOk tt (field_Check_E R field_find field_fits) (field_Check_T R field_Check_2_0_L) 0 a := by
  refine loops_ok 1 (by kernel_rfl) fun i hi => ?_
  match i, hi with
  | 0, _ => exact loopOk_some (by kernel_rfl) (field_Check_2_0_ok _ loopNo_ok)
  | n + 1, hi => omega
theorem field_Check_S_ok (R : Type) (other : Yard.Spec R) (ho : Yard.Spec.Ok Try.prog 25 other) : Yard.Spec.Ok Try.prog 25 (specBy field_Check_p field_Check_q (field_Check_rr field_Check) other) :=
  specBy_ok ho (funK_sound TT mixed (field_Check_EOk R) (keep := false) rfl rfl rfl rfl 0 (field_Check_loops R)) fun (x : Pat.dens field_Check_p) (y : HPat.dens field_Check_q) k => field_Check_ok field_find field_fits field_Check_2_0_L (⟨x.1.1, ⟨x.1.2.1, x.1.2.2.1⟩, x.1.2.2.2.1, x.1.2.2.2.2.1, x.1.2.2.2.2.2.1⟩ : Json) x.2.1 k

/-! ### humpyard/field.Str -/
abbrev field_Str_ty (R : Type) : Type := Str → (Json → Option R) → Option R
abbrev field_Str_p : List Pat := [.leaf (.str)]
abbrev field_Str_q : List HPat := []
noncomputable def field_Str_rr {R : Type} (fn : field_Str_ty R) : Pat.dens field_Str_p → HPat.dens field_Str_q → (V → Heap → Option R) → Option R := fun x y k => fn x.1 (fun q0 => k (.agg [.int .i64 q0.kind, .int .i64 q0.num.mant, .int .i64 q0.num.exp, .str q0.text, .sl .str q0.names .no, .sl .json q0.items .no]) [])
noncomputable def field_Str_E (R : Type) : Env R := fun i => match i with
  | _ => none
theorem field_Str_EOk (R : Type) : EOk Try.prog (field_Str_E R) := by
  intro i b sp h
  unfold field_Str_E at h
  split at h
  · cases h

noncomputable def field_Str_T (R : Type) : Nat → Option (Hint × LSpec R) := fun i => match i with
  | _ => none

noncomputable def field_Str_X {R : Type} (x1 : Str) (k0 : Json → Option R) : Option R :=
  k0 (⟨5, ⟨0, 0⟩, x1, ([] : List Str), ([] : List Json)⟩ : Json)
noncomputable def field_Str {R : Type} : field_Str_ty R := fun x1 k0 => field_Str_X x1 k0
theorem field_Str_ok {R : Type} (x1 : Str) (k : V → Heap → Option R) : funK tt (field_Str_E R) (field_Str_T R) false Try.f42 (codeOf Try.f42) [.str x1] [] k =
    field_Str_X x1 (fun q0 => k (.agg [.int .i64 q0.kind, .int .i64 q0.num.mant, .int .i64 q0.num.exp, .str q0.text, .sl .str q0.names .no, .sl .json q0.items .no]) []) := by kernel_rfl
theorem field_Str_loops (R : Type) : ∀ a ∈ loopsOf (codeOf Try.f42), LoopOk tt (field_Str_E R) (field_Str_T R) 0 a := by
  refine loops_ok 0 (by kernel_rfl) fun i hi => ?_
  omega
theorem field_Str_S_ok (R : Type) (other : Yard.Spec R) (ho : Yard.Spec.Ok Try.prog 42 other) : Yard.Spec.Ok Try.prog 42 (specBy field_Str_p field_Str_q (field_Str_rr field_Str) other) :=
  specBy_ok ho (funK_sound TT mixed (field_Str_EOk R) (keep := false) rfl rfl rfl rfl 0 (field_Str_loops R)) fun (x : Pat.dens field_Str_p) (y : HPat.dens field_Str_q) k => field_Str_ok x.1 k

/-! ### humpyard/field.Yes -/
abbrev field_Yes_ty (R : Type) : Type := Bool → (Json → Option R) → Option R
abbrev field_Yes_p : List Pat := [.leaf (.bool)]
abbrev field_Yes_q : List HPat := []
noncomputable def field_Yes_rr {R : Type} (fn : field_Yes_ty R) : Pat.dens field_Yes_p → HPat.dens field_Yes_q → (V → Heap → Option R) → Option R := fun x y k => fn x.1 (fun q0 => k (.agg [.int .i64 q0.kind, .int .i64 q0.num.mant, .int .i64 q0.num.exp, .str q0.text, .sl .str q0.names .no, .sl .json q0.items .no]) [])
noncomputable def field_Yes_E (R : Type) : Env R := fun i => match i with
  | _ => none
theorem field_Yes_EOk (R : Type) : EOk Try.prog (field_Yes_E R) := by
  intro i b sp h
  unfold field_Yes_E at h
  split at h
  · cases h

noncomputable def field_Yes_T (R : Type) : Nat → Option (Hint × LSpec R) := fun i => match i with
  | _ => none

noncomputable def field_Yes_X {R : Type} (x1 : Bool) (k0 : Json → Option R) : Option R :=
  bif x1 then (k0 (⟨3, ⟨0, 0⟩, ([] : Str), ([] : List Str), ([] : List Json)⟩ : Json)) else (k0 (⟨2, ⟨0, 0⟩, ([] : Str), ([] : List Str), ([] : List Json)⟩ : Json))
noncomputable def field_Yes {R : Type} : field_Yes_ty R := fun x1 k0 => field_Yes_X x1 k0
theorem field_Yes_ok {R : Type} (x1 : Bool) (k : V → Heap → Option R) : funK tt (field_Yes_E R) (field_Yes_T R) false Try.f44 (codeOf Try.f44) [.bool x1] [] k =
    field_Yes_X x1 (fun q0 => k (.agg [.int .i64 q0.kind, .int .i64 q0.num.mant, .int .i64 q0.num.exp, .str q0.text, .sl .str q0.names .no, .sl .json q0.items .no]) []) := by kernel_rfl
theorem field_Yes_loops (R : Type) : ∀ a ∈ loopsOf (codeOf Try.f44), LoopOk tt (field_Yes_E R) (field_Yes_T R) 0 a := by
  refine loops_ok 0 (by kernel_rfl) fun i hi => ?_
  omega
theorem field_Yes_S_ok (R : Type) (other : Yard.Spec R) (ho : Yard.Spec.Ok Try.prog 44 other) : Yard.Spec.Ok Try.prog 44 (specBy field_Yes_p field_Yes_q (field_Yes_rr field_Yes) other) :=
  specBy_ok ho (funK_sound TT mixed (field_Yes_EOk R) (keep := false) rfl rfl rfl rfl 0 (field_Yes_loops R)) fun (x : Pat.dens field_Yes_p) (y : HPat.dens field_Yes_q) k => field_Yes_ok x.1 k

/-! ### humpyard/decimal.Make -/
abbrev decimal_Make_ty (R : Type) : Type := Int → Int → (Dcm → Bool → Option R) → Option R
abbrev decimal_Make_p : List Pat := [.leaf (.int .i64), .leaf (.int .i64)]
abbrev decimal_Make_q : List HPat := []
noncomputable def decimal_Make_rr {R : Type} (fn : decimal_Make_ty R) : Pat.dens decimal_Make_p → HPat.dens decimal_Make_q → (V → Heap → Option R) → Option R := fun x y k => fn x.1 x.2.1 (fun q0 q1 => k (.tuple [.agg [.int .i64 q0.mant, .int .i64 q0.exp], .bool q1]) [])
abbrev decimal_Make_4_0_ty (R : Type) : Type := Nat → Int → Int → Dcm → (Int → Int → Dcm → Option R) → Option R
noncomputable def decimal_Make_E (R : Type) (decimal_within_int : decimal_within_int_ty R) : Env R := fun i => match i with
  | 95 => some (true, (specBy decimal_within_int_p decimal_within_int_q (decimal_within_int_rr decimal_within_int) specNo))
  | _ => none
theorem decimal_Make_EOk (R : Type) : EOk Try.prog (decimal_Make_E R decimal_within_int) := by
  intro i b sp h
  unfold decimal_Make_E at h
  split at h
  · cases h; exact (decimal_within_int_S_ok R _ (specNo_ok _))
  · cases h

noncomputable def decimal_Make_4_0_B {R : Type} (rec' : Int → Int → Dcm → Option R) (x3 : Int) (x4 : Int) (x5 : Dcm) (e0 : Int → Int → Dcm → Option R) : Option R :=
  bif ((Int.tmod x3 10) == 0) then (rec' (IntKind.i64.wrap (Int.tdiv x3 10)) (IntKind.i64.wrap (x4 + 1)) x5) else (e0 x3 x4 x5)
noncomputable def decimal_Make_4_0_L {R : Type} : decimal_Make_4_0_ty R
  | 0, _, _, _, _ => none
  | n + 1, x0', x1', x2', e0 => decimal_Make_4_0_B (fun x0' x1' x2' => decimal_Make_4_0_L n x0' x1' x2' e0) x0' x1' x2' e0
noncomputable def decimal_Make_4_0_h : Hint := { live := [0, 1, 4], own := [], rows := [], cells := [], drop := [], out := [0, 1, 4, 5] }
abbrev decimal_Make_4_0_D : Type := Int × Int × Dcm
noncomputable def decimal_Make_4_0_enc : decimal_Make_4_0_D → St := fun d => ⟨[.int .i64 d.1, .int .i64 d.2.1, .undef, .undef, .ptr 0 0, .undef, .undef, .undef, .undef, .undef, .undef, .undef, .undef, .undef, .undef, .undef, .undef, .undef, .undef, .undef, .undef, .undef, .undef, .undef, .undef, .undef, .undef, .undef, .undef, .undef], [.cells [.int .i64 d.2.2.mant, .int .i64 d.2.2.exp]]⟩
noncomputable def decimal_Make_4_0_x0 {R : Type} (K : Ex → St → Option R) (q0 : Int) (q1 : Int) (q2 : Dcm) : Option R := K (.exit 0) ⟨[.int .i64 q0, .int .i64 q1, .undef, .undef, .ptr 0 0, .undef, .undef, .undef, .undef, .undef, .undef, .undef, .undef, .undef, .undef, .undef, .undef, .undef, .undef, .undef, .undef, .undef, .undef, .undef, .undef, .undef, .undef, .undef, .undef, .undef], [.cells [.int .i64 q2.mant, .int .i64 q2.exp]]⟩
noncomputable def decimal_Make_4_0_s {R : Type} (K : Ex → St → Option R) (rc : decimal_Make_4_0_D → Option R) (d : decimal_Make_4_0_D) : Option R := decimal_Make_4_0_B (fun z0 z1 z2 => rc (z0, z1, z2)) d.1 d.2.1 d.2.2 (decimal_Make_4_0_x0 K)
noncomputable def decimal_Make_4_0_A {R : Type} (K : Ex → St → Option R) (n : Nat) (d : decimal_Make_4_0_D) : Option R := decimal_Make_4_0_L n d.1 d.2.1 d.2.2 (decimal_Make_4_0_x0 K)
abbrev decimal_Make_4_0_p : List Pat := [.leaf (.int .i64), .leaf (.int .i64), .leaf (.undef), .leaf (.undef), .leaf (.ptr 0 0), .leaf (.undef), .leaf (.undef), .leaf (.undef), .leaf (.undef), .leaf (.undef), .leaf (.undef), .leaf (.undef), .leaf (.undef), .leaf (.undef), .leaf (.undef), .leaf (.undef), .leaf (.undef), .leaf (.undef), .leaf (.undef), .leaf (.undef), .leaf (.undef), .leaf (.undef), .leaf (.undef), .leaf (.undef), .leaf (.undef), .leaf (.undef), .leaf (.undef), .leaf (.undef), .leaf (.undef), .leaf (.undef)]
abbrev decimal_Make_4_0_q : List HPat := [.cells [.int .i64, .int .i64]]
noncomputable def decimal_Make_4_0_f (x : Pat.dens decimal_Make_4_0_p) (y : HPat.dens decimal_Make_4_0_q) : Nat := (Int.natAbs x.1 + Int.natAbs x.2.1 + Dcm.fu (⟨y.1.1, y.1.2.1⟩ : Dcm) + 3)
noncomputable def decimal_Make_4_0_d (x : Pat.dens decimal_Make_4_0_p) (y : HPat.dens decimal_Make_4_0_q) : decimal_Make_4_0_D := (x.1, x.2.1, (⟨y.1.1, y.1.2.1⟩ : Dcm))
noncomputable def decimal_Make_4_0_rr {R : Type} (L : decimal_Make_4_0_ty R) : Pat.dens decimal_Make_4_0_p → HPat.dens decimal_Make_4_0_q → (Ex → St → Option R) → Option R := fun x y K => L (decimal_Make_4_0_f x y) x.1 x.2.1 (⟨y.1.1, y.1.2.1⟩ : Dcm) (decimal_Make_4_0_x0 K)
noncomputable def decimal_Make_T (R : Type) (decimal_Make_4_0_L : decimal_Make_4_0_ty R) : Nat → Option (Hint × LSpec R) := fun i => match i with
  | 4 => some (decimal_Make_4_0_h, (loopBy decimal_Make_4_0_p decimal_Make_4_0_q (decimal_Make_4_0_rr decimal_Make_4_0_L) loopNo))
  | _ => none

theorem decimal_Make_4_0_B_ok {R : Type} (decimal_within_int : decimal_within_int_ty R) (decimal_Make_4_0_L : decimal_Make_4_0_ty R) (K : Ex → St → Option R) (rc : St → Option R) (d : decimal_Make_4_0_D) : roundOf tt (decimal_Make_E R decimal_within_int) (decimal_Make_T R decimal_Make_4_0_L) 0 ((loopsOf (codeOf Try.f82)).getD 0 .skip) decimal_Make_4_0_h (decimal_Make_4_0_enc d) rc K = decimal_Make_4_0_s K (fun d => rc (decimal_Make_4_0_enc d)) d := by kernel_rfl
theorem decimal_Make_4_0_A_succ {R : Type} (K : Ex → St → Option R) (n : Nat) (d : decimal_Make_4_0_D) : decimal_Make_4_0_A K (n + 1) d = decimal_Make_4_0_s K (decimal_Make_4_0_A K n) d := by kernel_rfl
theorem decimal_Make_4_0_A_zero {R : Type} (K : Ex → St → Option R) (d : decimal_Make_4_0_D) : decimal_Make_4_0_A K 0 d = none := by kernel_rfl
theorem decimal_Make_4_0_e_ok (x : Pat.dens decimal_Make_4_0_p) (y : HPat.dens decimal_Make_4_0_q) : (⟨Pat.encL decimal_Make_4_0_p x, HPat.encL decimal_Make_4_0_q y⟩ : St) = decimal_Make_4_0_enc (decimal_Make_4_0_d x y) := by kernel_rfl
theorem decimal_Make_4_0_r_ok {R : Type} (x : Pat.dens decimal_Make_4_0_p) (y : HPat.dens decimal_Make_4_0_q) (K : Ex → St → Option R) : decimal_Make_4_0_rr (decimal_Make_4_0_L) x y K = decimal_Make_4_0_A K (decimal_Make_4_0_f x y) (decimal_Make_4_0_d x y) := by kernel_rfl
theorem decimal_Make_4_0_ok {R : Type} (other : LSpec R) (ho : LsOk tt (decimal_Make_E R decimal_within_int) (decimal_Make_T R decimal_Make_4_0_L) 0 ((loopsOf (codeOf Try.f82)).getD 0 .skip) decimal_Make_4_0_h other) : LsOk tt (decimal_Make_E R decimal_within_int) (decimal_Make_T R decimal_Make_4_0_L) 0 ((loopsOf (codeOf Try.f82)).getD 0 .skip) decimal_Make_4_0_h (loopBy decimal_Make_4_0_p decimal_Make_4_0_q (decimal_Make_4_0_rr (decimal_Make_4_0_L)) other) :=
  loopBy_tie (A := decimal_Make_4_0_A) ho (loop_tie decimal_Make_4_0_enc (decimal_Make_4_0_s) (decimal_Make_4_0_A) (decimal_Make_4_0_A_zero) (decimal_Make_4_0_B_ok decimal_within_int decimal_Make_4_0_L) (decimal_Make_4_0_A_succ)) decimal_Make_4_0_f decimal_Make_4_0_d decimal_Make_4_0_e_ok (decimal_Make_4_0_r_ok)

noncomputable def decimal_Make_X {R : Type} (decimal_within_int : decimal_within_int_ty R) (decimal_Make_4_0_L : decimal_Make_4_0_ty R) (x1 : Int) (x2 : Int) (k0 : Dcm → Bool → Option R) : Option R :=
  bif (x1 == 0) then (k0 (⟨0, 0⟩ : Dcm) true) else (decimal_Make_4_0_L (Int.natAbs x1 + Int.natAbs (min x2 1000000) + Dcm.fu (⟨0, 0⟩ : Dcm) + 3) x1 (min x2 1000000) (⟨0, 0⟩ : Dcm) (fun y6 y7 y8 => decimal_within_int (-1000000000000000) y6 1000000000000000 (fun y9 => bif (!y9) then (k0 (⟨0, 0⟩ : Dcm) false) else (decimal_within_int (-9) y7 9 (fun y10 => bif (!y10) then (k0 (⟨0, 0⟩ : Dcm) false) else (k0 (⟨y6, y7⟩ : Dcm) true))))))
noncomputable def decimal_Make {R : Type} : decimal_Make_ty R := fun x1 x2 k0 => decimal_Make_X decimal_within_int decimal_Make_4_0_L x1 x2 k0
theorem decimal_Make_ok {R : Type} (decimal_within_int : decimal_within_int_ty R) (decimal_Make_4_0_L : decimal_Make_4_0_ty R) (x1 : Int) (x2 : Int) (k : V → Heap → Option R) : funK tt (decimal_Make_E R decimal_within_int) (decimal_Make_T R decimal_Make_4_0_L) false Try.f82 (codeOf Try.f82) [.int .i64 x1, .int .i64 x2] [] k =
    decimal_Make_X decimal_within_int decimal_Make_4_0_L x1 x2 (fun q0 q1 => k (.tuple [.agg [.int .i64 q0.mant, .int .i64 q0.exp], .bool q1]) []) := by kernel_rfl
theorem decimal_Make_loops (R : Type) : ∀ a ∈ loopsOf (codeOf Try.f82), LoopOk tt (decimal_Make_E R decimal_within_int) (decimal_Make_T R decimal_Make_4_0_L) 0 a := by
  refine loops_ok 1 (by kernel_rfl) fun i hi => ?_
  match i, hi with
  | 0, _ => exact loopOk_some (by kernel_rfl) (decimal_Make_4_0_ok _ loopNo_ok)
  | n + 1, hi => omega
theorem decimal_Make_S_ok (R : Type) (other : Yard.Spec R) (ho : Yard.Spec.Ok Try.prog 82 other) : Yard.Spec.Ok Try.prog 82 (specBy decimal_Make_p decimal_Make_q (decimal_Make_rr decimal_Make) other) :=
  specBy_ok ho (funK_sound TT mixed (decimal_Make_EOk R) (keep := false) rfl rfl rfl rfl 0 (decimal_Make_loops R)) fun (x : Pat.dens decimal_Make_p) (y : HPat.dens decimal_Make_q) k => decimal_Make_ok decimal_within_int decimal_Make_4_0_L x.1 x.2.1 k

/-! ### humpyard/field.Int -/
abbrev field_Int_ty (R : Type) : Type := Int → (Json → Option R) → Option R
abbrev field_Int_p : List Pat := [.leaf (.int .i64)]
abbrev field_Int_q : List HPat := []
noncomputable def field_Int_rr {R : Type} (fn : field_Int_ty R) : Pat.dens field_Int_p → HPat.dens field_Int_q → (V → Heap → Option R) → Option R := fun x y k => fn x.1 (fun q0 => k (.agg [.int .i64 q0.kind, .int .i64 q0.num.mant, .int .i64 q0.num.exp, .str q0.text, .sl .str q0.names .no, .sl .json q0.items .no]) [])
noncomputable def field_Int_E (R : Type) (decimal_Make : decimal_Make_ty R) : Env R := fun i => match i with
  | 82 => some (true, (specBy decimal_Make_p decimal_Make_q (decimal_Make_rr decimal_Make) specNo))
  | _ => none
theorem field_Int_EOk (R : Type) : EOk Try.prog (field_Int_E R decimal_Make) := by
  intro i b sp h
  unfold field_Int_E at h
  split at h
  · cases h; exact (decimal_Make_S_ok R _ (specNo_ok _))
  · cases h

noncomputable def field_Int_T (R : Type) : Nat → Option (Hint × LSpec R) := fun i => match i with
  | _ => none

noncomputable def field_Int_X {R : Type} (decimal_Make : decimal_Make_ty R) (x1 : Int) (k0 : Json → Option R) : Option R :=
  decimal_Make x1 0 (fun y2 y3 => bif (!y3) then (k0 (⟨1, ⟨0, 0⟩, ([] : Str), ([] : List Str), ([] : List Json)⟩ : Json)) else (k0 (⟨4, ⟨y2.mant, y2.exp⟩, ([] : Str), ([] : List Str), ([] : List Json)⟩ : Json)))
noncomputable def field_Int {R : Type} : field_Int_ty R := fun x1 k0 => field_Int_X decimal_Make x1 k0
theorem field_Int_ok {R : Type} (decimal_Make : decimal_Make_ty R) (x1 : Int) (k : V → Heap → Option R) : funK tt (field_Int_E R decimal_Make) (field_Int_T R) false Try.f40 (codeOf Try.f40) [.int .i64 x1] [] k =
    field_Int_X decimal_Make x1 (fun q0 => k (.agg [.int .i64 q0.kind, .int .i64 q0.num.mant, .int .i64 q0.num.exp, .str q0.text, .sl .str q0.names .no, .sl .json q0.items .no]) []) := by kernel_rfl
theorem field_Int_loops (R : Type) : ∀ a ∈ loopsOf (codeOf Try.f40), LoopOk tt (field_Int_E R decimal_Make) (field_Int_T R) 0 a := by
  refine loops_ok 0 (by kernel_rfl) fun i hi => ?_
  omega
theorem field_Int_S_ok (R : Type) (other : Yard.Spec R) (ho : Yard.Spec.Ok Try.prog 40 other) : Yard.Spec.Ok Try.prog 40 (specBy field_Int_p field_Int_q (field_Int_rr field_Int) other) :=
  specBy_ok ho (funK_sound TT mixed (field_Int_EOk R) (keep := false) rfl rfl rfl rfl 0 (field_Int_loops R)) fun (x : Pat.dens field_Int_p) (y : HPat.dens field_Int_q) k => field_Int_ok decimal_Make x.1 k

/-! ### humpyard/humpyardlaw05.awake -/
abbrev law05_awake_ty (R : Type) : Type := (Bool → Option R) → Option R
abbrev law05_awake_p : List Pat := []
abbrev law05_awake_q : List HPat := []
noncomputable def law05_awake_rr {R : Type} (fn : law05_awake_ty R) : Pat.dens law05_awake_p → HPat.dens law05_awake_q → (V → Heap → Option R) → Option R := fun x y k => fn (fun q0 => k (.bool q0) [])
noncomputable def law05_awake_E (R : Type) (field_Check : field_Check_ty R) (field_Num : field_Num_ty R) (field_Text : field_Text_ty R) (field_Int : field_Int_ty R) (field_Str : field_Str_ty R) (field_Yes : field_Yes_ty R) : Env R := fun i => match i with
  | 25 => some (true, (specBy field_Check_p field_Check_q (field_Check_rr field_Check) specNo))
  | 28 => some (true, (specBy field_Num_p field_Num_q (field_Num_rr field_Num) specNo))
  | 29 => some (true, (specBy field_Text_p field_Text_q (field_Text_rr field_Text) specNo))
  | 40 => some (true, (specBy field_Int_p field_Int_q (field_Int_rr field_Int) specNo))
  | 42 => some (true, (specBy field_Str_p field_Str_q (field_Str_rr field_Str) specNo))
  | 44 => some (true, (specBy field_Yes_p field_Yes_q (field_Yes_rr field_Yes) specNo))
  | _ => none
theorem law05_awake_EOk (R : Type) : EOk Try.prog (law05_awake_E R field_Check field_Num field_Text field_Int field_Str field_Yes) := by
  intro i b sp h
  unfold law05_awake_E at h
  split at h
  · cases h; exact (field_Check_S_ok R _ (specNo_ok _))
  · cases h; exact (field_Num_S_ok R _ (specNo_ok _))
  · cases h; exact (field_Text_S_ok R _ (specNo_ok _))
  · cases h; exact (field_Int_S_ok R _ (specNo_ok _))
  · cases h; exact (field_Str_S_ok R _ (specNo_ok _))
  · cases h; exact (field_Yes_S_ok R _ (specNo_ok _))
  · cases h

noncomputable def law05_awake_T (R : Type) : Nat → Option (Hint × LSpec R) := fun i => match i with
  | _ => none

noncomputable def law05_awake_X {R : Type} (field_Check : field_Check_ty R) (field_Num : field_Num_ty R) (field_Text : field_Text_ty R) (field_Int : field_Int_ty R) (field_Str : field_Str_ty R) (field_Yes : field_Yes_ty R) (k0 : Bool → Option R) : Option R :=
  field_Num (⟨7, ⟨0, 0⟩, ([] : Str), ([([97] : Str)] : List Str), ([(⟨4, ⟨5, 0⟩, ([] : Str), ([] : List Str), ([] : List Json)⟩ : Json)] : List Json)⟩ : Json) ([97] : Str) (fun y1 y2 => field_Text (⟨7, ⟨0, 0⟩, ([] : Str), ([([97] : Str)] : List Str), ([(⟨4, ⟨5, 0⟩, ([] : Str), ([] : List Str), ([] : List Json)⟩ : Json)] : List Json)⟩ : Json) ([97] : Str) (fun y3 y4 => field_Check (⟨7, ⟨0, 0⟩, ([] : Str), ([([97] : Str)] : List Str), ([(⟨4, ⟨5, 0⟩, ([] : Str), ([] : List Str), ([] : List Json)⟩ : Json)] : List Json)⟩ : Json) ([(⟨([97] : Str), 4, 1, 9, false⟩ : Fld)] : List Fld) (fun y5 => bif (y5 == (-1)) then (field_Check (⟨7, ⟨0, 0⟩, ([] : Str), ([([97] : Str)] : List Str), ([(⟨4, ⟨5, 0⟩, ([] : Str), ([] : List Str), ([] : List Json)⟩ : Json)] : List Json)⟩ : Json) ([(⟨([97] : Str), 4, 6, 9, false⟩ : Fld)] : List Fld) (fun y6 => bif (y6 == 0) then (bif (y1 == 5) then (bif y2 then (bif (!y4) then (field_Str ([120] : Str) (fun y7 => bif (y7.text == ([120] : Str)) then (field_Yes true (fun y8 => bif (y8.kind == 3) then (field_Int 5 (fun y9 => k0 (y9.num.mant == 5))) else (k0 false))) else (k0 false))) else (k0 false)) else (k0 false)) else (k0 false)) else (k0 false))) else (k0 false))))
noncomputable def law05_awake {R : Type} : law05_awake_ty R := fun  k0 => law05_awake_X field_Check field_Num field_Text field_Int field_Str field_Yes  k0
theorem law05_awake_ok {R : Type} (field_Check : field_Check_ty R) (field_Num : field_Num_ty R) (field_Text : field_Text_ty R) (field_Int : field_Int_ty R) (field_Str : field_Str_ty R) (field_Yes : field_Yes_ty R) (k : V → Heap → Option R) : funK tt (law05_awake_E R field_Check field_Num field_Text field_Int field_Str field_Yes) (law05_awake_T R) false Try.f22 (codeOf Try.f22) [] [] k =
    law05_awake_X field_Check field_Num field_Text field_Int field_Str field_Yes  (fun q0 => k (.bool q0) []) := by kernel_rfl
theorem law05_awake_loops (R : Type) : ∀ a ∈ loopsOf (codeOf Try.f22), LoopOk tt (law05_awake_E R field_Check field_Num field_Text field_Int field_Str field_Yes) (law05_awake_T R) 0 a := by
  refine loops_ok 0 (by kernel_rfl) fun i hi => ?_
  omega
theorem law05_awake_S_ok (R : Type) (other : Yard.Spec R) (ho : Yard.Spec.Ok Try.prog 22 other) : Yard.Spec.Ok Try.prog 22 (specBy law05_awake_p law05_awake_q (law05_awake_rr law05_awake) other) :=
  specBy_ok ho (funK_sound TT mixed (law05_awake_EOk R) (keep := false) rfl rfl rfl rfl 0 (law05_awake_loops R)) fun (x : Pat.dens law05_awake_p) (y : HPat.dens law05_awake_q) k => law05_awake_ok field_Check field_Num field_Text field_Int field_Str field_Yes  k

/-! ### humpyard/humpyardlaw04.pick -/
abbrev law04_pick_ty (R : Type) : Type := Int → Int → (Int → Option R) → Option R
abbrev law04_pick_p : List Pat := [.leaf (.int .i64), .leaf (.int .i64)]
abbrev law04_pick_q : List HPat := []
noncomputable def law04_pick_rr {R : Type} (fn : law04_pick_ty R) : Pat.dens law04_pick_p → HPat.dens law04_pick_q → (V → Heap → Option R) → Option R := fun x y k => fn x.1 x.2.1 (fun q0 => k (.int .i64 q0) [])
noncomputable def law04_pick_E (R : Type) : Env R := fun i => match i with
  | _ => none
theorem law04_pick_EOk (R : Type) : EOk Try.prog (law04_pick_E R) := by
  intro i b sp h
  unfold law04_pick_E at h
  split at h
  · cases h

noncomputable def law04_pick_T (R : Type) : Nat → Option (Hint × LSpec R) := fun i => match i with
  | _ => none

noncomputable def law04_pick_X {R : Type} (x1 : Int) (x2 : Int) (k0 : Int → Option R) : Option R :=
  bif (decide (x1 < (0 : Int))) then (chk (!decide (x2 = 0)) (k0 (Int.tmod (IntKind.i64.wrap (0 - (IntKind.i64.wrap (x1 + 1)))) x2))) else (chk (!decide (x2 = 0)) (k0 (Int.tmod x1 x2)))
noncomputable def law04_pick {R : Type} : law04_pick_ty R := fun x1 x2 k0 => law04_pick_X x1 x2 k0
theorem law04_pick_ok {R : Type} (x1 : Int) (x2 : Int) (k : V → Heap → Option R) : funK tt (law04_pick_E R) (law04_pick_T R) false Try.f63 (codeOf Try.f63) [.int .i64 x1, .int .i64 x2] [] k =
    law04_pick_X x1 x2 (fun q0 => k (.int .i64 q0) []) := by kernel_rfl
theorem law04_pick_loops (R : Type) : ∀ a ∈ loopsOf (codeOf Try.f63), LoopOk tt (law04_pick_E R) (law04_pick_T R) 0 a := by
  refine loops_ok 0 (by kernel_rfl) fun i hi => ?_
  omega
theorem law04_pick_S_ok (R : Type) (other : Yard.Spec R) (ho : Yard.Spec.Ok Try.prog 63 other) : Yard.Spec.Ok Try.prog 63 (specBy law04_pick_p law04_pick_q (law04_pick_rr law04_pick) other) :=
  specBy_ok ho (funK_sound TT mixed (law04_pick_EOk R) (keep := false) rfl rfl rfl rfl 0 (law04_pick_loops R)) fun (x : Pat.dens law04_pick_p) (y : HPat.dens law04_pick_q) k => law04_pick_ok x.1 x.2.1 k

/-! ### humpyard/humpyardlaw01.pick -/
abbrev law01_pick_ty (R : Type) : Type := Int → Int → (Int → Option R) → Option R
abbrev law01_pick_p : List Pat := [.leaf (.int .i64), .leaf (.int .i64)]
abbrev law01_pick_q : List HPat := []
noncomputable def law01_pick_rr {R : Type} (fn : law01_pick_ty R) : Pat.dens law01_pick_p → HPat.dens law01_pick_q → (V → Heap → Option R) → Option R := fun x y k => fn x.1 x.2.1 (fun q0 => k (.int .i64 q0) [])
noncomputable def law01_pick_E (R : Type) : Env R := fun i => match i with
  | _ => none
theorem law01_pick_EOk (R : Type) : EOk Try.prog (law01_pick_E R) := by
  intro i b sp h
  unfold law01_pick_E at h
  split at h
  · cases h

noncomputable def law01_pick_T (R : Type) : Nat → Option (Hint × LSpec R) := fun i => match i with
  | _ => none

noncomputable def law01_pick_X {R : Type} (x1 : Int) (x2 : Int) (k0 : Int → Option R) : Option R :=
  bif (decide (x1 < (0 : Int))) then (chk (!decide (x2 = 0)) (k0 (Int.tmod (IntKind.i64.wrap (0 - (IntKind.i64.wrap (x1 + 1)))) x2))) else (chk (!decide (x2 = 0)) (k0 (Int.tmod x1 x2)))
noncomputable def law01_pick {R : Type} : law01_pick_ty R := fun x1 x2 k0 => law01_pick_X x1 x2 k0
theorem law01_pick_ok {R : Type} (x1 : Int) (x2 : Int) (k : V → Heap → Option R) : funK tt (law01_pick_E R) (law01_pick_T R) false Try.f88 (codeOf Try.f88) [.int .i64 x1, .int .i64 x2] [] k =
    law01_pick_X x1 x2 (fun q0 => k (.int .i64 q0) []) := by kernel_rfl
theorem law01_pick_loops (R : Type) : ∀ a ∈ loopsOf (codeOf Try.f88), LoopOk tt (law01_pick_E R) (law01_pick_T R) 0 a := by
  refine loops_ok 0 (by kernel_rfl) fun i hi => ?_
  omega
theorem law01_pick_S_ok (R : Type) (other : Yard.Spec R) (ho : Yard.Spec.Ok Try.prog 88 other) : Yard.Spec.Ok Try.prog 88 (specBy law01_pick_p law01_pick_q (law01_pick_rr law01_pick) other) :=
  specBy_ok ho (funK_sound TT mixed (law01_pick_EOk R) (keep := false) rfl rfl rfl rfl 0 (law01_pick_loops R)) fun (x : Pat.dens law01_pick_p) (y : HPat.dens law01_pick_q) k => law01_pick_ok x.1 x.2.1 k

/-! ### humpyard/humpyardlaw01.Fit -/
abbrev law01_Fit_ty (R : Type) : Type := Int → Int → (Dcm → Option R) → Option R
abbrev law01_Fit_p : List Pat := [.leaf (.int .i64), .leaf (.int .i64)]
abbrev law01_Fit_q : List HPat := []
noncomputable def law01_Fit_rr {R : Type} (fn : law01_Fit_ty R) : Pat.dens law01_Fit_p → HPat.dens law01_Fit_q → (V → Heap → Option R) → Option R := fun x y k => fn x.1 x.2.1 (fun q0 => k (.agg [.int .i64 q0.mant, .int .i64 q0.exp]) [])
abbrev law01_Fit_3_0_ty (R : Type) : Type := Nat → Int → Int → Dcm → (Int → Int → Dcm → Option R) → Option R
noncomputable def law01_Fit_E (R : Type) (law01_pick : law01_pick_ty R) : Env R := fun i => match i with
  | 88 => some (true, (specBy law01_pick_p law01_pick_q (law01_pick_rr law01_pick) specNo))
  | _ => none
theorem law01_Fit_EOk (R : Type) : EOk Try.prog (law01_Fit_E R law01_pick) := by
  intro i b sp h
  unfold law01_Fit_E at h
  split at h
  · cases h; exact (law01_pick_S_ok R _ (specNo_ok _))
  · cases h

noncomputable def law01_Fit_3_0_B {R : Type} (rec' : Int → Int → Dcm → Option R) (x5 : Int) (x6 : Int) (x7 : Dcm) (e0 : Int → Int → Dcm → Option R) : Option R :=
  bif (x5 != 0) then (bif ((Int.tmod x5 10) == 0) then (rec' (IntKind.i64.wrap (Int.tdiv x5 10)) x6 x7) else (e0 x5 x6 x7)) else (e0 x5 x6 x7)
noncomputable def law01_Fit_3_0_L {R : Type} : law01_Fit_3_0_ty R
  | 0, _, _, _, _ => none
  | n + 1, x0', x1', x2', e0 => law01_Fit_3_0_B (fun x0' x1' x2' => law01_Fit_3_0_L n x0' x1' x2' e0) x0' x1' x2' e0
noncomputable def law01_Fit_3_0_h : Hint := { live := [4, 5, 6], own := [], rows := [], cells := [], drop := [], out := [4, 5, 6] }
abbrev law01_Fit_3_0_D : Type := Int × Int × Dcm
noncomputable def law01_Fit_3_0_enc : law01_Fit_3_0_D → St := fun d => ⟨[.undef, .undef, .undef, .undef, .ptr 0 0, .int .i64 d.1, .int .i64 d.2.1, .undef, .undef, .undef, .undef, .undef, .undef, .undef, .undef, .undef, .undef, .undef, .undef, .undef, .undef, .undef, .undef, .undef, .undef, .undef, .undef], [.cells [.int .i64 d.2.2.mant, .int .i64 d.2.2.exp]]⟩
noncomputable def law01_Fit_3_0_x0 {R : Type} (K : Ex → St → Option R) (q0 : Int) (q1 : Int) (q2 : Dcm) : Option R := K (.exit 0) ⟨[.undef, .undef, .undef, .undef, .ptr 0 0, .int .i64 q0, .int .i64 q1, .undef, .undef, .undef, .undef, .undef, .undef, .undef, .undef, .undef, .undef, .undef, .undef, .undef, .undef, .undef, .undef, .undef, .undef, .undef, .undef], [.cells [.int .i64 q2.mant, .int .i64 q2.exp]]⟩
noncomputable def law01_Fit_3_0_s {R : Type} (K : Ex → St → Option R) (rc : law01_Fit_3_0_D → Option R) (d : law01_Fit_3_0_D) : Option R := law01_Fit_3_0_B (fun z0 z1 z2 => rc (z0, z1, z2)) d.1 d.2.1 d.2.2 (law01_Fit_3_0_x0 K)
noncomputable def law01_Fit_3_0_A {R : Type} (K : Ex → St → Option R) (n : Nat) (d : law01_Fit_3_0_D) : Option R := law01_Fit_3_0_L n d.1 d.2.1 d.2.2 (law01_Fit_3_0_x0 K)
abbrev law01_Fit_3_0_p : List Pat := [.leaf (.undef), .leaf (.undef), .leaf (.undef), .leaf (.undef), .leaf (.ptr 0 0), .leaf (.int .i64), .leaf (.int .i64), .leaf (.undef), .leaf (.undef), .leaf (.undef), .leaf (.undef), .leaf (.undef), .leaf (.undef), .leaf (.undef), .leaf (.undef), .leaf (.undef), .leaf (.undef), .leaf (.undef), .leaf (.undef), .leaf (.undef), .leaf (.undef), .leaf (.undef), .leaf (.undef), .leaf (.undef), .leaf (.undef), .leaf (.undef), .leaf (.undef)]
abbrev law01_Fit_3_0_q : List HPat := [.cells [.int .i64, .int .i64]]
noncomputable def law01_Fit_3_0_f (x : Pat.dens law01_Fit_3_0_p) (y : HPat.dens law01_Fit_3_0_q) : Nat := (Int.natAbs x.2.2.2.2.2.1 + Int.natAbs x.2.2.2.2.2.2.1 + Dcm.fu (⟨y.1.1, y.1.2.1⟩ : Dcm) + 3)
noncomputable def law01_Fit_3_0_d (x : Pat.dens law01_Fit_3_0_p) (y : HPat.dens law01_Fit_3_0_q) : law01_Fit_3_0_D := (x.2.2.2.2.2.1, x.2.2.2.2.2.2.1, (⟨y.1.1, y.1.2.1⟩ : Dcm))
noncomputable def law01_Fit_3_0_rr {R : Type} (L : law01_Fit_3_0_ty R) : Pat.dens law01_Fit_3_0_p → HPat.dens law01_Fit_3_0_q → (Ex → St → Option R) → Option R := fun x y K => L (law01_Fit_3_0_f x y) x.2.2.2.2.2.1 x.2.2.2.2.2.2.1 (⟨y.1.1, y.1.2.1⟩ : Dcm) (law01_Fit_3_0_x0 K)
noncomputable def law01_Fit_T (R : Type) (law01_Fit_3_0_L : law01_Fit_3_0_ty R) : Nat → Option (Hint × LSpec R) := fun i => match i with
  | 3 => some (law01_Fit_3_0_h, (loopBy law01_Fit_3_0_p law01_Fit_3_0_q (law01_Fit_3_0_rr law01_Fit_3_0_L) loopNo))
  | _ => none

theorem law01_Fit_3_0_B_ok {R : Type} (law01_pick : law01_pick_ty R) (law01_Fit_3_0_L : law01_Fit_3_0_ty R) (K : Ex → St → Option R) (rc : St → Option R) (d : law01_Fit_3_0_D) : roundOf tt (law01_Fit_E R law01_pick) (law01_Fit_T R law01_Fit_3_0_L) 0 ((loopsOf (codeOf Try.f64)).getD 0 .skip) law01_Fit_3_0_h (law01_Fit_3_0_enc d) rc K = law01_Fit_3_0_s K (fun d => rc (law01_Fit_3_0_enc d)) d := by kernel_rfl
theorem law01_Fit_3_0_A_succ {R : Type} (K : Ex → St → Option R) (n : Nat) (d : law01_Fit_3_0_D) : law01_Fit_3_0_A K (n + 1) d = law01_Fit_3_0_s K (law01_Fit_3_0_A K n) d := by kernel_rfl
theorem law01_Fit_3_0_A_zero {R : Type} (K : Ex → St → Option R) (d : law01_Fit_3_0_D) : law01_Fit_3_0_A K 0 d = none := by kernel_rfl
theorem law01_Fit_3_0_e_ok (x : Pat.dens law01_Fit_3_0_p) (y : HPat.dens law01_Fit_3_0_q) : (⟨Pat.encL law01_Fit_3_0_p x, HPat.encL law01_Fit_3_0_q y⟩ : St) = law01_Fit_3_0_enc (law01_Fit_3_0_d x y) := by kernel_rfl
theorem law01_Fit_3_0_r_ok {R : Type} (x : Pat.dens law01_Fit_3_0_p) (y : HPat.dens law01_Fit_3_0_q) (K : Ex → St → Option R) : law01_Fit_3_0_rr (law01_Fit_3_0_L) x y K = law01_Fit_3_0_A K (law01_Fit_3_0_f x y) (law01_Fit_3_0_d x y) := by kernel_rfl
theorem law01_Fit_3_0_ok {R : Type} (other : LSpec R) (ho : LsOk tt (law01_Fit_E R law01_pick) (law01_Fit_T R law01_Fit_3_0_L) 0 ((loopsOf (codeOf Try.f64)).getD 0 .skip) law01_Fit_3_0_h other) : LsOk tt (law01_Fit_E R law01_pick) (law01_Fit_T R law01_Fit_3_0_L) 0 ((loopsOf (codeOf Try.f64)).getD 0 .skip) law01_Fit_3_0_h (loopBy law01_Fit_3_0_p law01_Fit_3_0_q (law01_Fit_3_0_rr (law01_Fit_3_0_L)) other) :=
  loopBy_tie (A := law01_Fit_3_0_A) ho (loop_tie law01_Fit_3_0_enc (law01_Fit_3_0_s) (law01_Fit_3_0_A) (law01_Fit_3_0_A_zero) (law01_Fit_3_0_B_ok law01_pick law01_Fit_3_0_L) (law01_Fit_3_0_A_succ)) law01_Fit_3_0_f law01_Fit_3_0_d law01_Fit_3_0_e_ok (law01_Fit_3_0_r_ok)

noncomputable def law01_Fit_X {R : Type} (law01_pick : law01_pick_ty R) (law01_Fit_3_0_L : law01_Fit_3_0_ty R) (x1 : Int) (x2 : Int) (k0 : Dcm → Option R) : Option R :=
  law01_pick x1 2000000000000001 (fun y3 => law01_pick x2 19 (fun y4 => law01_Fit_3_0_L (Int.natAbs (IntKind.i64.wrap (y3 - 1000000000000000)) + Int.natAbs (IntKind.i64.wrap (y4 - 9)) + Dcm.fu (⟨0, 0⟩ : Dcm) + 3) (IntKind.i64.wrap (y3 - 1000000000000000)) (IntKind.i64.wrap (y4 - 9)) (⟨0, 0⟩ : Dcm) (fun y9 y10 y11 => bif (y9 == 0) then (k0 (⟨y9, 0⟩ : Dcm)) else (k0 (⟨y9, y10⟩ : Dcm)))))
noncomputable def law01_Fit {R : Type} : law01_Fit_ty R := fun x1 x2 k0 => law01_Fit_X law01_pick law01_Fit_3_0_L x1 x2 k0
theorem law01_Fit_ok {R : Type} (law01_pick : law01_pick_ty R) (law01_Fit_3_0_L : law01_Fit_3_0_ty R) (x1 : Int) (x2 : Int) (k : V → Heap → Option R) : funK tt (law01_Fit_E R law01_pick) (law01_Fit_T R law01_Fit_3_0_L) false Try.f64 (codeOf Try.f64) [.int .i64 x1, .int .i64 x2] [] k =
    law01_Fit_X law01_pick law01_Fit_3_0_L x1 x2 (fun q0 => k (.agg [.int .i64 q0.mant, .int .i64 q0.exp]) []) := by kernel_rfl
theorem law01_Fit_loops (R : Type) : ∀ a ∈ loopsOf (codeOf Try.f64), LoopOk tt (law01_Fit_E R law01_pick) (law01_Fit_T R law01_Fit_3_0_L) 0 a := by
  refine loops_ok 1 (by kernel_rfl) fun i hi => ?_
  match i, hi with
  | 0, _ => exact loopOk_some (by kernel_rfl) (law01_Fit_3_0_ok _ loopNo_ok)
  | n + 1, hi => omega
theorem law01_Fit_S_ok (R : Type) (other : Yard.Spec R) (ho : Yard.Spec.Ok Try.prog 64 other) : Yard.Spec.Ok Try.prog 64 (specBy law01_Fit_p law01_Fit_q (law01_Fit_rr law01_Fit) other) :=
  specBy_ok ho (funK_sound TT mixed (law01_Fit_EOk R) (keep := false) rfl rfl rfl rfl 0 (law01_Fit_loops R)) fun (x : Pat.dens law01_Fit_p) (y : HPat.dens law01_Fit_q) k => law01_Fit_ok law01_pick law01_Fit_3_0_L x.1 x.2.1 k

/-! ### humpyard/humpyardlaw02.pick -/
abbrev law02_pick_ty (R : Type) : Type := Int → Int → (Int → Option R) → Option R
abbrev law02_pick_p : List Pat := [.leaf (.int .i64), .leaf (.int .i64)]
abbrev law02_pick_q : List HPat := []
noncomputable def law02_pick_rr {R : Type} (fn : law02_pick_ty R) : Pat.dens law02_pick_p → HPat.dens law02_pick_q → (V → Heap → Option R) → Option R := fun x y k => fn x.1 x.2.1 (fun q0 => k (.int .i64 q0) [])
noncomputable def law02_pick_E (R : Type) : Env R := fun i => match i with
  | _ => none
theorem law02_pick_EOk (R : Type) : EOk Try.prog (law02_pick_E R) := by
  intro i b sp h
  unfold law02_pick_E at h
  split at h
  · cases h

noncomputable def law02_pick_T (R : Type) : Nat → Option (Hint × LSpec R) := fun i => match i with
  | _ => none

noncomputable def law02_pick_X {R : Type} (x1 : Int) (x2 : Int) (k0 : Int → Option R) : Option R :=
  bif (decide (x1 < (0 : Int))) then (chk (!decide (x2 = 0)) (k0 (Int.tmod (IntKind.i64.wrap (0 - (IntKind.i64.wrap (x1 + 1)))) x2))) else (chk (!decide (x2 = 0)) (k0 (Int.tmod x1 x2)))
noncomputable def law02_pick {R : Type} : law02_pick_ty R := fun x1 x2 k0 => law02_pick_X x1 x2 k0
theorem law02_pick_ok {R : Type} (x1 : Int) (x2 : Int) (k : V → Heap → Option R) : funK tt (law02_pick_E R) (law02_pick_T R) false Try.f89 (codeOf Try.f89) [.int .i64 x1, .int .i64 x2] [] k =
    law02_pick_X x1 x2 (fun q0 => k (.int .i64 q0) []) := by kernel_rfl
theorem law02_pick_loops (R : Type) : ∀ a ∈ loopsOf (codeOf Try.f89), LoopOk tt (law02_pick_E R) (law02_pick_T R) 0 a := by
  refine loops_ok 0 (by kernel_rfl) fun i hi => ?_
  omega
theorem law02_pick_S_ok (R : Type) (other : Yard.Spec R) (ho : Yard.Spec.Ok Try.prog 89 other) : Yard.Spec.Ok Try.prog 89 (specBy law02_pick_p law02_pick_q (law02_pick_rr law02_pick) other) :=
  specBy_ok ho (funK_sound TT mixed (law02_pick_EOk R) (keep := false) rfl rfl rfl rfl 0 (law02_pick_loops R)) fun (x : Pat.dens law02_pick_p) (y : HPat.dens law02_pick_q) k => law02_pick_ok x.1 x.2.1 k

/-! ### humpyard/humpyardlaw02.Text -/
abbrev law02_Text_ty (R : Type) : Type := (List Int) → (Str → Option R) → Option R
abbrev law02_Text_p : List Pat := [.leaf (.sl (.int .i64))]
abbrev law02_Text_q : List HPat := []
noncomputable def law02_Text_rr {R : Type} (fn : law02_Text_ty R) : Pat.dens law02_Text_p → HPat.dens law02_Text_q → (V → Heap → Option R) → Option R := fun x y k => fn x.1 (fun q0 => k (.str q0) [])
abbrev law02_Text_3_0_ty (R : Type) : Type := Nat → (List Int) → Str → Int → (Str → Option R) → Option R
noncomputable def law02_Text_E (R : Type) (law02_pick : law02_pick_ty R) : Env R := fun i => match i with
  | 89 => some (true, (specBy law02_pick_p law02_pick_q (law02_pick_rr law02_pick) specNo))
  | _ => none
theorem law02_Text_EOk (R : Type) : EOk Try.prog (law02_Text_E R law02_pick) := by
  intro i b sp h
  unfold law02_Text_E at h
  split at h
  · cases h; exact (law02_pick_S_ok R _ (specNo_ok _))
  · cases h

noncomputable def law02_Text_3_0_B {R : Type} (law02_pick : law02_pick_ty R) (rec' : (List Int) → Str → Int → Option R) (x2 : List Int) (x3 : Str) (x4 : Int) (e0 : Str → Option R) : Option R :=
  bif (decide (x4 < (x2.length : Int))) then (bif (decide (x4 < (200 : Int))) then (chk (decide ((0 : Int) ≤ x4) && decide (x4 < x2.length)) (let j16 := fun (z13 : Int) => bif (decide (z13 ≥ (55296 : Int))) then (bif (decide (z13 ≤ (57343 : Int))) then (chk (decide (x3.length + (runesB ([120] : List Int)).length ≤ 9223372036854775807)) (rec' x2 (x3 ++ (runesB ([120] : List Int))) (IntKind.i64.wrap (x4 + 1)))) else (chk (decide (x3.length + (runesB ([(IntKind.i32.wrap z13)] : List Int)).length ≤ 9223372036854775807)) (rec' x2 (x3 ++ (runesB ([(IntKind.i32.wrap z13)] : List Int))) (IntKind.i64.wrap (x4 + 1))))) else (chk (decide (x3.length + (runesB ([(IntKind.i32.wrap z13)] : List Int)).length ≤ 9223372036854775807)) (rec' x2 (x3 ++ (runesB ([(IntKind.i32.wrap z13)] : List Int))) (IntKind.i64.wrap (x4 + 1)))); law02_pick (x2.getD x4.toNat (Ty.dflt (.int .i64))) 5 (fun y6 => let j12 := fun (z7 : Bool) => bif z7 then (law02_pick (IntKind.i64.wrap (Int.tdiv (x2.getD x4.toNat (Ty.dflt (.int .i64))) 5)) 128 (fun y8 => j16 y8)) else (bif (y6 == 2) then (law02_pick (IntKind.i64.wrap (Int.tdiv (x2.getD x4.toNat (Ty.dflt (.int .i64))) 5)) 2048 (fun y9 => j16 y9)) else (bif (y6 == 3) then (law02_pick (IntKind.i64.wrap (Int.tdiv (x2.getD x4.toNat (Ty.dflt (.int .i64))) 5)) 65536 (fun y10 => j16 y10)) else (law02_pick (IntKind.i64.wrap (Int.tdiv (x2.getD x4.toNat (Ty.dflt (.int .i64))) 5)) 1114112 (fun y11 => j16 y11)))); bif (y6 == 0) then (j12 (y6 == 0)) else (j12 (y6 == 1))))) else (e0 x3)) else (e0 x3)
noncomputable def law02_Text_3_0_L {R : Type} : law02_Text_3_0_ty R
  | 0, _, _, _, _ => none
  | n + 1, x0', x1', x2', e0 => law02_Text_3_0_B law02_pick (fun x0' x1' x2' => law02_Text_3_0_L n x0' x1' x2' e0) x0' x1' x2' e0
noncomputable def law02_Text_3_0_h : Hint := { live := [0, 3, 4], own := [], rows := [], cells := [], drop := [], out := [2, 3] }
abbrev law02_Text_3_0_D : Type := (List Int) × Str × Int
noncomputable def law02_Text_3_0_enc : law02_Text_3_0_D → St := fun d => ⟨[.sl (.int .i64) d.1 .no, .undef, .undef, .str d.2.1, .int .i64 d.2.2, .undef, .undef, .undef, .undef, .undef, .undef, .undef, .undef, .undef, .undef, .undef, .undef, .undef, .undef, .undef, .undef, .undef, .undef, .undef, .undef, .undef, .undef, .undef, .undef, .undef, .undef, .undef, .undef, .undef, .undef, .undef, .undef, .undef, .undef, .undef, .undef, .undef, .undef, .undef, .undef, .undef, .undef, .undef, .undef, .undef, .undef, .undef, .undef, .undef, .undef], []⟩
noncomputable def law02_Text_3_0_x0 {R : Type} (K : Ex → St → Option R) (q0 : Str) : Option R := K (.exit 0) ⟨[.undef, .undef, .undef, .str q0, .undef, .undef, .undef, .undef, .undef, .undef, .undef, .undef, .undef, .undef, .undef, .undef, .undef, .undef, .undef, .undef, .undef, .undef, .undef, .undef, .undef, .undef, .undef, .undef, .undef, .undef, .undef, .undef, .undef, .undef, .undef, .undef, .undef, .undef, .undef, .undef, .undef, .undef, .undef, .undef, .undef, .undef, .undef, .undef, .undef, .undef, .undef, .undef, .undef, .undef, .undef], []⟩
noncomputable def law02_Text_3_0_s {R : Type} (law02_pick : law02_pick_ty R) (K : Ex → St → Option R) (rc : law02_Text_3_0_D → Option R) (d : law02_Text_3_0_D) : Option R := law02_Text_3_0_B law02_pick (fun z0 z1 z2 => rc (z0, z1, z2)) d.1 d.2.1 d.2.2 (law02_Text_3_0_x0 K)
noncomputable def law02_Text_3_0_A {R : Type} (K : Ex → St → Option R) (n : Nat) (d : law02_Text_3_0_D) : Option R := law02_Text_3_0_L n d.1 d.2.1 d.2.2 (law02_Text_3_0_x0 K)
abbrev law02_Text_3_0_p : List Pat := [.leaf (.sl (.int .i64)), .leaf (.undef), .leaf (.undef), .leaf (.str), .leaf (.int .i64), .leaf (.undef), .leaf (.undef), .leaf (.undef), .leaf (.undef), .leaf (.undef), .leaf (.undef), .leaf (.undef), .leaf (.undef), .leaf (.undef), .leaf (.undef), .leaf (.undef), .leaf (.undef), .leaf (.undef), .leaf (.undef), .leaf (.undef), .leaf (.undef), .leaf (.undef), .leaf (.undef), .leaf (.undef), .leaf (.undef), .leaf (.undef), .leaf (.undef), .leaf (.undef), .leaf (.undef), .leaf (.undef), .leaf (.undef), .leaf (.undef), .leaf (.undef), .leaf (.undef), .leaf (.undef), .leaf (.undef), .leaf (.undef), .leaf (.undef), .leaf (.undef), .leaf (.undef), .leaf (.undef), .leaf (.undef), .leaf (.undef), .leaf (.undef), .leaf (.undef), .leaf (.undef), .leaf (.undef), .leaf (.undef), .leaf (.undef), .leaf (.undef), .leaf (.undef), .leaf (.undef), .leaf (.undef), .leaf (.undef), .leaf (.undef)]
abbrev law02_Text_3_0_q : List HPat := []
noncomputable def law02_Text_3_0_f (x : Pat.dens law02_Text_3_0_p) (y : HPat.dens law02_Text_3_0_q) : Nat := (List.length x.1 + List.length x.2.2.2.1 + Int.natAbs x.2.2.2.2.1 + 3)
noncomputable def law02_Text_3_0_d (x : Pat.dens law02_Text_3_0_p) (y : HPat.dens law02_Text_3_0_q) : law02_Text_3_0_D := (x.1, x.2.2.2.1, x.2.2.2.2.1)
noncomputable def law02_Text_3_0_rr {R : Type} (L : law02_Text_3_0_ty R) : Pat.dens law02_Text_3_0_p → HPat.dens law02_Text_3_0_q → (Ex → St → Option R) → Option R := fun x y K => L (law02_Text_3_0_f x y) x.1 x.2.2.2.1 x.2.2.2.2.1 (law02_Text_3_0_x0 K)
noncomputable def law02_Text_T (R : Type) (law02_Text_3_0_L : law02_Text_3_0_ty R) : Nat → Option (Hint × LSpec R) := fun i => match i with
  | 3 => some (law02_Text_3_0_h, (loopBy law02_Text_3_0_p law02_Text_3_0_q (law02_Text_3_0_rr law02_Text_3_0_L) loopNo))
  | _ => none

theorem law02_Text_3_0_B_ok {R : Type} (law02_pick : law02_pick_ty R) (law02_Text_3_0_L : law02_Text_3_0_ty R) (K : Ex → St → Option R) (rc : St → Option R) (d : law02_Text_3_0_D) : roundOf tt (law02_Text_E R law02_pick) (law02_Text_T R law02_Text_3_0_L) 0 ((loopsOf (codeOf Try.f65)).getD 0 .skip) law02_Text_3_0_h (law02_Text_3_0_enc d) rc K = law02_Text_3_0_s law02_pick K (fun d => rc (law02_Text_3_0_enc d)) d := by kernel_rfl
theorem law02_Text_3_0_A_succ {R : Type} (K : Ex → St → Option R) (n : Nat) (d : law02_Text_3_0_D) : law02_Text_3_0_A K (n + 1) d = law02_Text_3_0_s law02_pick K (law02_Text_3_0_A K n) d := by kernel_rfl
theorem law02_Text_3_0_A_zero {R : Type} (K : Ex → St → Option R) (d : law02_Text_3_0_D) : law02_Text_3_0_A K 0 d = none := by kernel_rfl
theorem law02_Text_3_0_e_ok (x : Pat.dens law02_Text_3_0_p) (y : HPat.dens law02_Text_3_0_q) : (⟨Pat.encL law02_Text_3_0_p x, HPat.encL law02_Text_3_0_q y⟩ : St) = law02_Text_3_0_enc (law02_Text_3_0_d x y) := by kernel_rfl
theorem law02_Text_3_0_r_ok {R : Type} (x : Pat.dens law02_Text_3_0_p) (y : HPat.dens law02_Text_3_0_q) (K : Ex → St → Option R) : law02_Text_3_0_rr (law02_Text_3_0_L) x y K = law02_Text_3_0_A K (law02_Text_3_0_f x y) (law02_Text_3_0_d x y) := by kernel_rfl
theorem law02_Text_3_0_ok {R : Type} (other : LSpec R) (ho : LsOk tt (law02_Text_E R law02_pick) (law02_Text_T R law02_Text_3_0_L) 0 ((loopsOf (codeOf Try.f65)).getD 0 .skip) law02_Text_3_0_h other) : LsOk tt (law02_Text_E R law02_pick) (law02_Text_T R law02_Text_3_0_L) 0 ((loopsOf (codeOf Try.f65)).getD 0 .skip) law02_Text_3_0_h (loopBy law02_Text_3_0_p law02_Text_3_0_q (law02_Text_3_0_rr (law02_Text_3_0_L)) other) :=
  loopBy_tie (A := law02_Text_3_0_A) ho (loop_tie law02_Text_3_0_enc (law02_Text_3_0_s law02_pick) (law02_Text_3_0_A) (law02_Text_3_0_A_zero) (law02_Text_3_0_B_ok law02_pick law02_Text_3_0_L) (law02_Text_3_0_A_succ)) law02_Text_3_0_f law02_Text_3_0_d law02_Text_3_0_e_ok (law02_Text_3_0_r_ok)

noncomputable def law02_Text_X {R : Type} (law02_Text_3_0_L : law02_Text_3_0_ty R) (x1 : List Int) (k0 : Str → Option R) : Option R :=
  law02_Text_3_0_L (List.length x1 + List.length ([] : Str) + Int.natAbs 0 + 3) x1 ([] : Str) 0 (fun y18 => k0 y18)
noncomputable def law02_Text {R : Type} : law02_Text_ty R := fun x1 k0 => law02_Text_X law02_Text_3_0_L x1 k0
theorem law02_Text_ok {R : Type} (law02_pick : law02_pick_ty R) (law02_Text_3_0_L : law02_Text_3_0_ty R) (x1 : List Int) (k : V → Heap → Option R) : funK tt (law02_Text_E R law02_pick) (law02_Text_T R law02_Text_3_0_L) false Try.f65 (codeOf Try.f65) [.sl (.int .i64) x1 .no] [] k =
    law02_Text_X law02_Text_3_0_L x1 (fun q0 => k (.str q0) []) := by kernel_rfl
theorem law02_Text_loops (R : Type) : ∀ a ∈ loopsOf (codeOf Try.f65), LoopOk tt (law02_Text_E R law02_pick) (law02_Text_T R law02_Text_3_0_L) 0 a := by
  refine loops_ok 1 (by kernel_rfl) fun i hi => ?_
  match i, hi with
  | 0, _ => exact loopOk_some (by kernel_rfl) (law02_Text_3_0_ok _ loopNo_ok)
  | n + 1, hi => omega
theorem law02_Text_S_ok (R : Type) (other : Yard.Spec R) (ho : Yard.Spec.Ok Try.prog 65 other) : Yard.Spec.Ok Try.prog 65 (specBy law02_Text_p law02_Text_q (law02_Text_rr law02_Text) other) :=
  specBy_ok ho (funK_sound TT mixed (law02_Text_EOk R) (keep := false) rfl rfl rfl rfl 0 (law02_Text_loops R)) fun (x : Pat.dens law02_Text_p) (y : HPat.dens law02_Text_q) k => law02_Text_ok law02_pick law02_Text_3_0_L x.1 k

end Go.Proofs.Ytcocpfgemdkkfaa

/-
  Functions of the program as pure Lean functions, and the ties; printed by wip/tools/emit.py.
-/
set_option maxRecDepth 100000
set_option linter.unusedVariables false
namespace Go.Proofs.Ytcocpfgemdkkfaa
open Go Go.Yard

/-! ### humpyard/humpyardlaw04.Fit -/
abbrev law04_Fit_ty (R : Type) : Type := Raw → Int → (Json → Option R) → Option R
abbrev law04_Fit_p : List Pat := [.agg [.int .i64, .int .i64, .int .i64, .sl (.int .i64), .sl .raw], .leaf (.int .i64)]
abbrev law04_Fit_q : List HPat := []
noncomputable def law04_Fit_rr {R : Type} (fn : law04_Fit_ty R) : Pat.dens law04_Fit_p → HPat.dens law04_Fit_q → (V → Heap → Option R) → Option R := fun x y k => fn (⟨x.1.1, x.1.2.1, x.1.2.2.1, x.1.2.2.2.1, x.1.2.2.2.2.1⟩ : Raw) x.2.1 (fun q0 => k (.agg [.int .i64 q0.kind, .int .i64 q0.num.mant, .int .i64 q0.num.exp, .str q0.text, .sl .str q0.names .no, .sl .json q0.items .no]) [])
abbrev law04_Fit_18_0_ty (R : Type) : Type := Nat → Int → Int → Int → Str → Bool → Int → Raw → Int → Int → Int → Str → Int → Int → Int → Str → (List Str) → (List Json) → Raw → (Int → Int → Int → Str → Bool → Raw → Int → Int → Int → Str → Int → Int → Int → Str → (List Str) → (List Json) → Raw → Option R) → Option R
abbrev law04_Fit_11_0_ty (R : Type) : Type := Nat → Int → Int → Int → Raw → Int → Int → Int → Str → Int → Int → Int → Str → (List Str) → (List Json) → (Int → Int → Int → Str → Int → Int → Int → Str → (List Str) → (List Json) → Option R) → Option R
noncomputable def law04_Fit_E (R : Type) (hrec_law04_Fit : law04_Fit_ty R) (law04_pick : law04_pick_ty R) (law01_Fit : law01_Fit_ty R) (law02_Text : law02_Text_ty R) : Env R := fun i => match i with
  | 23 => some (true, (specBy law04_Fit_p law04_Fit_q (law04_Fit_rr hrec_law04_Fit) specNo))
  | 63 => some (true, (specBy law04_pick_p law04_pick_q (law04_pick_rr law04_pick) specNo))
  | 64 => some (true, (specBy law01_Fit_p law01_Fit_q (law01_Fit_rr law01_Fit) specNo))
  | 65 => some (true, (specBy law02_Text_p law02_Text_q (law02_Text_rr law02_Text) specNo))
  | _ => none
theorem law04_Fit_EOk (R : Type) (hrec_law04_Fit : law04_Fit_ty R) (hyp_law04_Fit : Yard.Spec.Ok Try.prog 23 (specBy law04_Fit_p law04_Fit_q (law04_Fit_rr hrec_law04_Fit) specNo)) : EOk Try.prog (law04_Fit_E R hrec_law04_Fit law04_pick law01_Fit law02_Text) := by
  intro i b sp h
  unfold law04_Fit_E at h
  split at h
  · cases h; exact hyp_law04_Fit
  · cases h; exact (law04_pick_S_ok R _ (specNo_ok _))
  · cases h; exact (law01_Fit_S_ok R _ (specNo_ok _))
  · cases h; exact (law02_Text_S_ok R _ (specNo_ok _))
  · cases h

noncomputable def law04_Fit_18_0_B {R : Type} (rec' : Int → Int → Int → Str → Bool → Int → Raw → Int → Int → Int → Str → Int → Int → Int → Str → (List Str) → (List Json) → Raw → Option R) (x23 : Int) (x24 : Int) (x25 : Int) (x26 : Str) (x27 : Bool) (x28 : Int) (x29 : Raw) (x30 : Int) (x31 : Int) (x32 : Int) (x33 : Str) (x34 : Int) (x35 : Int) (x36 : Int) (x37 : Str) (x38 : List Str) (x39 : List Json) (x40 : Raw) (e0 : Int → Int → Int → Str → Bool → Raw → Int → Int → Int → Str → Int → Int → Int → Str → (List Str) → (List Json) → Raw → Option R) : Option R :=
  bif (decide (x28 < (x38.length : Int))) then (bif x27 then (rec' x23 x24 x25 x26 true (IntKind.i64.wrap (x28 + 1)) (⟨x29.kind, x29.mant, x29.exp, x29.text, x29.items⟩ : Raw) x30 x31 x32 x33 x34 x35 x36 x37 x38 x39 (⟨x40.kind, x40.mant, x40.exp, x40.text, x40.items⟩ : Raw)) else (chk (decide ((0 : Int) ≤ x28) && decide (x28 < x38.length)) (rec' x23 x24 x25 x26 ((x38.getD x28.toNat (Ty.dflt .str)) == x26) (IntKind.i64.wrap (x28 + 1)) (⟨x29.kind, x29.mant, x29.exp, x29.text, x29.items⟩ : Raw) x30 x31 x32 x33 x34 x35 x36 x37 x38 x39 (⟨x40.kind, x40.mant, x40.exp, x40.text, x40.items⟩ : Raw)))) else (e0 x23 x24 x25 x26 x27 (⟨x29.kind, x29.mant, x29.exp, x29.text, x29.items⟩ : Raw) x30 x31 x32 x33 x34 x35 x36 x37 x38 x39 (⟨x40.kind, x40.mant, x40.exp, x40.text, x40.items⟩ : Raw))
noncomputable def law04_Fit_18_0_L {R : Type} : law04_Fit_18_0_ty R
  | 0, _, _, _, _, _, _, _, _, _, _, _, _, _, _, _, _, _, _, _ => none
  | n + 1, x0', x1', x2', x3', x4', x5', x6', x7', x8', x9', x10', x11', x12', x13', x14', x15', x16', x17', e0 => law04_Fit_18_0_B (fun x0' x1' x2' x3' x4' x5' x6' x7' x8' x9' x10' x11' x12' x13' x14' x15' x16' x17' => law04_Fit_18_0_L n x0' x1' x2' x3' x4' x5' x6' x7' x8' x9' x10' x11' x12' x13' x14' x15' x16' x17' e0) x0' x1' x2' x3' x4' x5' x6' x7' x8' x9' x10' x11' x12' x13' x14' x15' x16' x17' e0
noncomputable def law04_Fit_18_0_h : Hint := { live := [1, 2, 4, 5, 6, 7, 8, 9, 10, 11], own := [], rows := [], cells := [], drop := [], out := [1, 2, 4, 5, 6, 7, 8, 9, 10] }
abbrev law04_Fit_18_0_D : Type := Int × Int × Int × Str × Bool × Int × Raw × Int × Int × Int × Str × Int × Int × Int × Str × (List Str) × (List Json) × Raw
noncomputable def law04_Fit_18_0_enc : law04_Fit_18_0_D → St := fun d => ⟨[.undef, .int .i64 d.1, .ptr 0 0, .undef, .ptr 1 0, .int .i64 d.2.1, .ptr 2 0, .int .i64 d.2.2.1, .ptr 3 0, .str d.2.2.2.1, .bool d.2.2.2.2.1, .int .i64 d.2.2.2.2.2.1, .undef, .undef, .undef, .undef, .undef, .undef, .undef, .undef, .undef, .undef, .undef, .undef, .undef, .undef, .undef, .undef, .undef, .undef, .undef, .undef, .undef, .undef, .undef, .undef, .undef, .undef, .undef, .undef, .undef, .undef, .undef, .undef, .undef, .undef, .undef, .undef, .undef, .undef, .undef, .undef, .undef, .undef, .undef, .undef, .undef, .undef, .undef, .undef, .undef, .undef, .undef, .undef, .undef, .undef, .undef, .undef, .undef, .undef, .undef, .undef, .undef, .undef, .undef, .undef, .undef, .undef, .undef, .undef, .undef, .undef, .undef, .undef, .undef, .undef, .undef, .undef, .undef, .undef, .undef, .undef, .undef, .undef, .undef, .undef, .undef, .undef, .undef, .undef, .undef, .undef, .undef, .undef, .undef], [.cells [.int .i64 d.2.2.2.2.2.2.1.kind, .int .i64 d.2.2.2.2.2.2.1.mant, .int .i64 d.2.2.2.2.2.2.1.exp, .sl (.int .i64) d.2.2.2.2.2.2.1.text .no, .sl .raw d.2.2.2.2.2.2.1.items .no], .cells [.int .i64 d.2.2.2.2.2.2.2.1, .int .i64 d.2.2.2.2.2.2.2.2.1, .int .i64 d.2.2.2.2.2.2.2.2.2.1, .str d.2.2.2.2.2.2.2.2.2.2.1, .nilsl, .nilsl], .cells [.int .i64 d.2.2.2.2.2.2.2.2.2.2.2.1, .int .i64 d.2.2.2.2.2.2.2.2.2.2.2.2.1, .int .i64 d.2.2.2.2.2.2.2.2.2.2.2.2.2.1, .str d.2.2.2.2.2.2.2.2.2.2.2.2.2.2.1, .sl .str d.2.2.2.2.2.2.2.2.2.2.2.2.2.2.2.1 (.own 4), .sl .json d.2.2.2.2.2.2.2.2.2.2.2.2.2.2.2.2.1 (.own 5)], .cells [.int .i64 d.2.2.2.2.2.2.2.2.2.2.2.2.2.2.2.2.2.kind, .int .i64 d.2.2.2.2.2.2.2.2.2.2.2.2.2.2.2.2.2.mant, .int .i64 d.2.2.2.2.2.2.2.2.2.2.2.2.2.2.2.2.2.exp, .sl (.int .i64) d.2.2.2.2.2.2.2.2.2.2.2.2.2.2.2.2.2.text .no, .sl .raw d.2.2.2.2.2.2.2.2.2.2.2.2.2.2.2.2.2.items .no], .tok, .tok]⟩
noncomputable def law04_Fit_18_0_x0 {R : Type} (K : Ex → St → Option R) (q0 : Int) (q1 : Int) (q2 : Int) (q3 : Str) (q4 : Bool) (q5 : Raw) (q6 : Int) (q7 : Int) (q8 : Int) (q9 : Str) (q10 : Int) (q11 : Int) (q12 : Int) (q13 : Str) (q14 : List Str) (q15 : List Json) (q16 : Raw) : Option R := K (.exit 3) ⟨[.undef, .int .i64 q0, .ptr 0 0, .undef, .ptr 1 0, .int .i64 q1, .ptr 2 0, .int .i64 q2, .ptr 3 0, .str q3, .bool q4, .undef, .undef, .undef, .undef, .undef, .undef, .undef, .undef, .undef, .undef, .undef, .undef, .undef, .undef, .undef, .undef, .undef, .undef, .undef, .undef, .undef, .undef, .undef, .undef, .undef, .undef, .undef, .undef, .undef, .undef, .undef, .undef, .undef, .undef, .undef, .undef, .undef, .undef, .undef, .undef, .undef, .undef, .undef, .undef, .undef, .undef, .undef, .undef, .undef, .undef, .undef, .undef, .undef, .undef, .undef, .undef, .undef, .undef, .undef, .undef, .undef, .undef, .undef, .undef, .undef, .undef, .undef, .undef, .undef, .undef, .undef, .undef, .undef, .undef, .undef, .undef, .undef, .undef, .undef, .undef, .undef, .undef, .undef, .undef, .undef, .undef, .undef, .undef, .undef, .undef, .undef, .undef, .undef, .undef], [.cells [.int .i64 q5.kind, .int .i64 q5.mant, .int .i64 q5.exp, .sl (.int .i64) q5.text .no, .sl .raw q5.items .no], .cells [.int .i64 q6, .int .i64 q7, .int .i64 q8, .str q9, .nilsl, .nilsl], .cells [.int .i64 q10, .int .i64 q11, .int .i64 q12, .str q13, .sl .str q14 (.own 4), .sl .json q15 (.own 5)], .cells [.int .i64 q16.kind, .int .i64 q16.mant, .int .i64 q16.exp, .sl (.int .i64) q16.text .no, .sl .raw q16.items .no], .tok, .tok]⟩
noncomputable def law04_Fit_18_0_s {R : Type} (K : Ex → St → Option R) (rc : law04_Fit_18_0_D → Option R) (d : law04_Fit_18_0_D) : Option R := law04_Fit_18_0_B (fun z0 z1 z2 z3 z4 z5 z6 z7 z8 z9 z10 z11 z12 z13 z14 z15 z16 z17 => rc (z0, z1, z2, z3, z4, z5, z6, z7, z8, z9, z10, z11, z12, z13, z14, z15, z16, z17)) d.1 d.2.1 d.2.2.1 d.2.2.2.1 d.2.2.2.2.1 d.2.2.2.2.2.1 d.2.2.2.2.2.2.1 d.2.2.2.2.2.2.2.1 d.2.2.2.2.2.2.2.2.1 d.2.2.2.2.2.2.2.2.2.1 d.2.2.2.2.2.2.2.2.2.2.1 d.2.2.2.2.2.2.2.2.2.2.2.1 d.2.2.2.2.2.2.2.2.2.2.2.2.1 d.2.2.2.2.2.2.2.2.2.2.2.2.2.1 d.2.2.2.2.2.2.2.2.2.2.2.2.2.2.1 d.2.2.2.2.2.2.2.2.2.2.2.2.2.2.2.1 d.2.2.2.2.2.2.2.2.2.2.2.2.2.2.2.2.1 d.2.2.2.2.2.2.2.2.2.2.2.2.2.2.2.2.2 (law04_Fit_18_0_x0 K)
noncomputable def law04_Fit_18_0_A {R : Type} (K : Ex → St → Option R) (n : Nat) (d : law04_Fit_18_0_D) : Option R := law04_Fit_18_0_L n d.1 d.2.1 d.2.2.1 d.2.2.2.1 d.2.2.2.2.1 d.2.2.2.2.2.1 d.2.2.2.2.2.2.1 d.2.2.2.2.2.2.2.1 d.2.2.2.2.2.2.2.2.1 d.2.2.2.2.2.2.2.2.2.1 d.2.2.2.2.2.2.2.2.2.2.1 d.2.2.2.2.2.2.2.2.2.2.2.1 d.2.2.2.2.2.2.2.2.2.2.2.2.1 d.2.2.2.2.2.2.2.2.2.2.2.2.2.1 d.2.2.2.2.2.2.2.2.2.2.2.2.2.2.1 d.2.2.2.2.2.2.2.2.2.2.2.2.2.2.2.1 d.2.2.2.2.2.2.2.2.2.2.2.2.2.2.2.2.1 d.2.2.2.2.2.2.2.2.2.2.2.2.2.2.2.2.2 (law04_Fit_18_0_x0 K)
abbrev law04_Fit_18_0_p : List Pat := [.leaf (.undef), .leaf (.int .i64), .leaf (.ptr 0 0), .leaf (.undef), .leaf (.ptr 1 0), .leaf (.int .i64), .leaf (.ptr 2 0), .leaf (.int .i64), .leaf (.ptr 3 0), .leaf (.str), .leaf (.bool), .leaf (.int .i64), .leaf (.undef), .leaf (.undef), .leaf (.undef), .leaf (.undef), .leaf (.undef), .leaf (.undef), .leaf (.undef), .leaf (.undef), .leaf (.undef), .leaf (.undef), .leaf (.undef), .leaf (.undef), .leaf (.undef), .leaf (.undef), .leaf (.undef), .leaf (.undef), .leaf (.undef), .leaf (.undef), .leaf (.undef), .leaf (.undef), .leaf (.undef), .leaf (.undef), .leaf (.undef), .leaf (.undef), .leaf (.undef), .leaf (.undef), .leaf (.undef), .leaf (.undef), .leaf (.undef), .leaf (.undef), .leaf (.undef), .leaf (.undef), .leaf (.undef), .leaf (.undef), .leaf (.undef), .leaf (.undef), .leaf (.undef), .leaf (.undef), .leaf (.undef), .leaf (.undef), .leaf (.undef), .leaf (.undef), .leaf (.undef), .leaf (.undef), .leaf (.undef), .leaf (.undef), .leaf (.undef), .leaf (.undef), .leaf (.undef), .leaf (.undef), .leaf (.undef), .leaf (.undef), .leaf (.undef), .leaf (.undef), .leaf (.undef), .leaf (.undef), .leaf (.undef), .leaf (.undef), .leaf (.undef), .leaf (.undef), .leaf (.undef), .leaf (.undef), .leaf (.undef), .leaf (.undef), .leaf (.undef), .leaf (.undef), .leaf (.undef), .leaf (.undef), .leaf (.undef), .leaf (.undef), .leaf (.undef), .leaf (.undef), .leaf (.undef), .leaf (.undef), .leaf (.undef), .leaf (.undef), .leaf (.undef), .leaf (.undef), .leaf (.undef), .leaf (.undef), .leaf (.undef), .leaf (.undef), .leaf (.undef), .leaf (.undef), .leaf (.undef), .leaf (.undef), .leaf (.undef), .leaf (.undef), .leaf (.undef), .leaf (.undef), .leaf (.undef), .leaf (.undef), .leaf (.undef)]
abbrev law04_Fit_18_0_q : List HPat := [.cells [.int .i64, .int .i64, .int .i64, .sl (.int .i64), .sl .raw], .cells [.int .i64, .int .i64, .int .i64, .str, .nilsl, .nilsl], .cells [.int .i64, .int .i64, .int .i64, .str, .slo .str 4, .slo .json 5], .cells [.int .i64, .int .i64, .int .i64, .sl (.int .i64), .sl .raw], .tok, .tok]
noncomputable def law04_Fit_18_0_f (x : Pat.dens law04_Fit_18_0_p) (y : HPat.dens law04_Fit_18_0_q) : Nat := (Int.natAbs x.2.1 + Int.natAbs x.2.2.2.2.2.1 + Int.natAbs x.2.2.2.2.2.2.2.1 + List.length x.2.2.2.2.2.2.2.2.2.1 + Int.natAbs x.2.2.2.2.2.2.2.2.2.2.2.1 + Raw.fu (⟨y.1.1, y.1.2.1, y.1.2.2.1, y.1.2.2.2.1, y.1.2.2.2.2.1⟩ : Raw) + Int.natAbs y.2.1.1 + Int.natAbs y.2.1.2.1 + Int.natAbs y.2.1.2.2.1 + List.length y.2.1.2.2.2.1 + Int.natAbs y.2.2.1.1 + Int.natAbs y.2.2.1.2.1 + Int.natAbs y.2.2.1.2.2.1 + List.length y.2.2.1.2.2.2.1 + List.length y.2.2.1.2.2.2.2.1 + List.length y.2.2.1.2.2.2.2.2.1 + Raw.fu (⟨y.2.2.2.1.1, y.2.2.2.1.2.1, y.2.2.2.1.2.2.1, y.2.2.2.1.2.2.2.1, y.2.2.2.1.2.2.2.2.1⟩ : Raw) + 3)
noncomputable def law04_Fit_18_0_d (x : Pat.dens law04_Fit_18_0_p) (y : HPat.dens law04_Fit_18_0_q) : law04_Fit_18_0_D := (x.2.1, x.2.2.2.2.2.1, x.2.2.2.2.2.2.2.1, x.2.2.2.2.2.2.2.2.2.1, x.2.2.2.2.2.2.2.2.2.2.1, x.2.2.2.2.2.2.2.2.2.2.2.1, (⟨y.1.1, y.1.2.1, y.1.2.2.1, y.1.2.2.2.1, y.1.2.2.2.2.1⟩ : Raw), y.2.1.1, y.2.1.2.1, y.2.1.2.2.1, y.2.1.2.2.2.1, y.2.2.1.1, y.2.2.1.2.1, y.2.2.1.2.2.1, y.2.2.1.2.2.2.1, y.2.2.1.2.2.2.2.1, y.2.2.1.2.2.2.2.2.1, (⟨y.2.2.2.1.1, y.2.2.2.1.2.1, y.2.2.2.1.2.2.1, y.2.2.2.1.2.2.2.1, y.2.2.2.1.2.2.2.2.1⟩ : Raw))
noncomputable def law04_Fit_18_0_rr {R : Type} (L : law04_Fit_18_0_ty R) : Pat.dens law04_Fit_18_0_p → HPat.dens law04_Fit_18_0_q → (Ex → St → Option R) → Option R := fun x y K => L (law04_Fit_18_0_f x y) x.2.1 x.2.2.2.2.2.1 x.2.2.2.2.2.2.2.1 x.2.2.2.2.2.2.2.2.2.1 x.2.2.2.2.2.2.2.2.2.2.1 x.2.2.2.2.2.2.2.2.2.2.2.1 (⟨y.1.1, y.1.2.1, y.1.2.2.1, y.1.2.2.2.1, y.1.2.2.2.2.1⟩ : Raw) y.2.1.1 y.2.1.2.1 y.2.1.2.2.1 y.2.1.2.2.2.1 y.2.2.1.1 y.2.2.1.2.1 y.2.2.1.2.2.1 y.2.2.1.2.2.2.1 y.2.2.1.2.2.2.2.1 y.2.2.1.2.2.2.2.2.1 (⟨y.2.2.2.1.1, y.2.2.2.1.2.1, y.2.2.2.1.2.2.1, y.2.2.2.1.2.2.2.1, y.2.2.2.1.2.2.2.2.1⟩ : Raw) (law04_Fit_18_0_x0 K)
noncomputable def law04_Fit_11_0_B {R : Type} (hrec_law04_Fit : law04_Fit_ty R) (law02_Text : law02_Text_ty R) (law04_Fit_18_0_L : law04_Fit_18_0_ty R) (rec' : Int → Int → Int → Raw → Int → Int → Int → Str → Int → Int → Int → Str → (List Str) → (List Json) → Option R) (x7 : Int) (x8 : Int) (x9 : Int) (x10 : Raw) (x11 : Int) (x12 : Int) (x13 : Int) (x14 : Str) (x15 : Int) (x16 : Int) (x17 : Int) (x18 : Str) (x19 : List Str) (x20 : List Json) (e0 : Int → Int → Int → Str → Int → Int → Int → Str → (List Str) → (List Json) → Option R) : Option R :=
  bif (decide (x9 < (x10.items.length : Int))) then (bif (decide (x9 < (12 : Int))) then (bif (decide (x7 < (16 : Int))) then (chk (decide ((0 : Int) ≤ x9) && decide (x9 < x10.items.length)) (chk (decide ((0 : Int) ≤ (min (((x10.items.getD x9.toNat (Ty.dflt .raw)).text).length : Int) 8)) && decide ((min (((x10.items.getD x9.toNat (Ty.dflt .raw)).text).length : Int) 8) ≤ ((x10.items.getD x9.toNat (Ty.dflt .raw)).text).length)) (chk (decide ((0 : Int) ≤ (min (((x10.items.getD x9.toNat (Ty.dflt .raw)).text).length : Int) 8))) (law02_Text ((((x10.items.getD x9.toNat (Ty.dflt .raw)).text).drop 0).take ((min (((x10.items.getD x9.toNat (Ty.dflt .raw)).text).length : Int) 8).toNat - 0)) (fun y22 => bif (x8 == 7) then (law04_Fit_18_0_L (Int.natAbs x7 + Int.natAbs x8 + Int.natAbs x9 + List.length y22 + Int.natAbs 0 + Raw.fu (⟨x10.kind, x10.mant, x10.exp, x10.text, x10.items⟩ : Raw) + Int.natAbs x11 + Int.natAbs x12 + Int.natAbs x13 + List.length x14 + Int.natAbs x15 + Int.natAbs x16 + Int.natAbs x17 + List.length x18 + List.length x19 + List.length x20 + Raw.fu (⟨(x10.items.getD x9.toNat (Ty.dflt .raw)).kind, (x10.items.getD x9.toNat (Ty.dflt .raw)).mant, (x10.items.getD x9.toNat (Ty.dflt .raw)).exp, (x10.items.getD x9.toNat (Ty.dflt .raw)).text, (x10.items.getD x9.toNat (Ty.dflt .raw)).items⟩ : Raw) + 3) x7 x8 x9 y22 false 0 (⟨x10.kind, x10.mant, x10.exp, x10.text, x10.items⟩ : Raw) x11 x12 x13 x14 x15 x16 x17 x18 x19 x20 (⟨(x10.items.getD x9.toNat (Ty.dflt .raw)).kind, (x10.items.getD x9.toNat (Ty.dflt .raw)).mant, (x10.items.getD x9.toNat (Ty.dflt .raw)).exp, (x10.items.getD x9.toNat (Ty.dflt .raw)).text, (x10.items.getD x9.toNat (Ty.dflt .raw)).items⟩ : Raw) (fun y42 y43 y44 y45 y46 y47 y48 y49 y50 y51 y52 y53 y54 y55 y56 y57 y58 => bif y46 then (rec' y42 y43 (IntKind.i64.wrap (y44 + 1)) (⟨y47.kind, y47.mant, y47.exp, y47.text, y47.items⟩ : Raw) y48 y49 y50 y51 y52 y53 y54 y55 y56 y57) else (chk (decide ((y56.length + 1) * 16 ≤ 140737488355328)) (hrec_law04_Fit (⟨y58.kind, y58.mant, y58.exp, y58.text, y58.items⟩ : Raw) (IntKind.i64.wrap (y42 + 1)) (fun y59 => chk (decide ((y57.length + 1) * 88 ≤ 140737488355328)) (rec' y42 y43 (IntKind.i64.wrap (y44 + 1)) (⟨y47.kind, y47.mant, y47.exp, y47.text, y47.items⟩ : Raw) y48 y49 y50 y51 y52 y53 y54 y55 (y56 ++ ([y45] : List Str)) (y57 ++ ([(⟨y59.kind, ⟨y59.num.mant, y59.num.exp⟩, y59.text, y59.names, y59.items⟩ : Json)] : List Json)))))))) else (hrec_law04_Fit (⟨(x10.items.getD x9.toNat (Ty.dflt .raw)).kind, (x10.items.getD x9.toNat (Ty.dflt .raw)).mant, (x10.items.getD x9.toNat (Ty.dflt .raw)).exp, (x10.items.getD x9.toNat (Ty.dflt .raw)).text, (x10.items.getD x9.toNat (Ty.dflt .raw)).items⟩ : Raw) (IntKind.i64.wrap (x7 + 1)) (fun y60 => chk (decide ((x20.length + 1) * 88 ≤ 140737488355328)) (rec' x7 x8 (IntKind.i64.wrap (x9 + 1)) (⟨x10.kind, x10.mant, x10.exp, x10.text, x10.items⟩ : Raw) x11 x12 x13 x14 x15 x16 x17 x18 x19 (x20 ++ ([(⟨y60.kind, ⟨y60.num.mant, y60.num.exp⟩, y60.text, y60.names, y60.items⟩ : Json)] : List Json)))))))))) else (e0 x11 x12 x13 x14 x15 x16 x17 x18 x19 x20)) else (e0 x11 x12 x13 x14 x15 x16 x17 x18 x19 x20)) else (e0 x11 x12 x13 x14 x15 x16 x17 x18 x19 x20)
noncomputable def law04_Fit_11_0_L {R : Type} (hrec_law04_Fit : law04_Fit_ty R) : law04_Fit_11_0_ty R
  | 0, _, _, _, _, _, _, _, _, _, _, _, _, _, _, _ => none
  | n + 1, x0', x1', x2', x3', x4', x5', x6', x7', x8', x9', x10', x11', x12', x13', e0 => law04_Fit_11_0_B hrec_law04_Fit law02_Text law04_Fit_18_0_L (fun x0' x1' x2' x3' x4' x5' x6' x7' x8' x9' x10' x11' x12' x13' => law04_Fit_11_0_L hrec_law04_Fit n x0' x1' x2' x3' x4' x5' x6' x7' x8' x9' x10' x11' x12' x13' e0) x0' x1' x2' x3' x4' x5' x6' x7' x8' x9' x10' x11' x12' x13' e0
noncomputable def law04_Fit_11_0_h : Hint := { live := [1, 2, 4, 5, 6, 7], own := [], rows := [], cells := [(2, 4, .str, false), (2, 5, .json, false)], drop := [], out := [4, 6] }
abbrev law04_Fit_11_0_D : Type := Int × Int × Int × Raw × Int × Int × Int × Str × Int × Int × Int × Str × (List Str) × (List Json)
noncomputable def law04_Fit_11_0_enc : law04_Fit_11_0_D → St := fun d => ⟨[.undef, .int .i64 d.1, .ptr 0 0, .undef, .ptr 1 0, .int .i64 d.2.1, .ptr 2 0, .int .i64 d.2.2.1, .undef, .undef, .undef, .undef, .undef, .undef, .undef, .undef, .undef, .undef, .undef, .undef, .undef, .undef, .undef, .undef, .undef, .undef, .undef, .undef, .undef, .undef, .undef, .undef, .undef, .undef, .undef, .undef, .undef, .undef, .undef, .undef, .undef, .undef, .undef, .undef, .undef, .undef, .undef, .undef, .undef, .undef, .undef, .undef, .undef, .undef, .undef, .undef, .undef, .undef, .undef, .undef, .undef, .undef, .undef, .undef, .undef, .undef, .undef, .undef, .undef, .undef, .undef, .undef, .undef, .undef, .undef, .undef, .undef, .undef, .undef, .undef, .undef, .undef, .undef, .undef, .undef, .undef, .undef, .undef, .undef, .undef, .undef, .undef, .undef, .undef, .undef, .undef, .undef, .undef, .undef, .undef, .undef, .undef, .undef, .undef, .undef], [.cells [.int .i64 d.2.2.2.1.kind, .int .i64 d.2.2.2.1.mant, .int .i64 d.2.2.2.1.exp, .sl (.int .i64) d.2.2.2.1.text .no, .sl .raw d.2.2.2.1.items .no], .cells [.int .i64 d.2.2.2.2.1, .int .i64 d.2.2.2.2.2.1, .int .i64 d.2.2.2.2.2.2.1, .str d.2.2.2.2.2.2.2.1, .nilsl, .nilsl], .cells [.int .i64 d.2.2.2.2.2.2.2.2.1, .int .i64 d.2.2.2.2.2.2.2.2.2.1, .int .i64 d.2.2.2.2.2.2.2.2.2.2.1, .str d.2.2.2.2.2.2.2.2.2.2.2.1, .sl .str d.2.2.2.2.2.2.2.2.2.2.2.2.1 (.own 3), .sl .json d.2.2.2.2.2.2.2.2.2.2.2.2.2 (.own 4)], .tok, .tok]⟩
noncomputable def law04_Fit_11_0_x0 {R : Type} (K : Ex → St → Option R) (q0 : Int) (q1 : Int) (q2 : Int) (q3 : Str) (q4 : Int) (q5 : Int) (q6 : Int) (q7 : Str) (q8 : List Str) (q9 : List Json) : Option R := K (.exit 1) ⟨[.undef, .undef, .undef, .undef, .ptr 0 0, .undef, .ptr 1 0, .undef, .undef, .undef, .undef, .undef, .undef, .undef, .undef, .undef, .undef, .undef, .undef, .undef, .undef, .undef, .undef, .undef, .undef, .undef, .undef, .undef, .undef, .undef, .undef, .undef, .undef, .undef, .undef, .undef, .undef, .undef, .undef, .undef, .undef, .undef, .undef, .undef, .undef, .undef, .undef, .undef, .undef, .undef, .undef, .undef, .undef, .undef, .undef, .undef, .undef, .undef, .undef, .undef, .undef, .undef, .undef, .undef, .undef, .undef, .undef, .undef, .undef, .undef, .undef, .undef, .undef, .undef, .undef, .undef, .undef, .undef, .undef, .undef, .undef, .undef, .undef, .undef, .undef, .undef, .undef, .undef, .undef, .undef, .undef, .undef, .undef, .undef, .undef, .undef, .undef, .undef, .undef, .undef, .undef, .undef, .undef, .undef, .undef], [.cells [.int .i64 q0, .int .i64 q1, .int .i64 q2, .str q3, .nilsl, .nilsl], .cells [.int .i64 q4, .int .i64 q5, .int .i64 q6, .str q7, .sl .str q8 (.own 2), .sl .json q9 (.own 3)], .tok, .tok]⟩
noncomputable def law04_Fit_11_0_s {R : Type} (hrec_law04_Fit : law04_Fit_ty R) (law02_Text : law02_Text_ty R) (law04_Fit_18_0_L : law04_Fit_18_0_ty R) (K : Ex → St → Option R) (rc : law04_Fit_11_0_D → Option R) (d : law04_Fit_11_0_D) : Option R := law04_Fit_11_0_B hrec_law04_Fit law02_Text law04_Fit_18_0_L (fun z0 z1 z2 z3 z4 z5 z6 z7 z8 z9 z10 z11 z12 z13 => rc (z0, z1, z2, z3, z4, z5, z6, z7, z8, z9, z10, z11, z12, z13)) d.1 d.2.1 d.2.2.1 d.2.2.2.1 d.2.2.2.2.1 d.2.2.2.2.2.1 d.2.2.2.2.2.2.1 d.2.2.2.2.2.2.2.1 d.2.2.2.2.2.2.2.2.1 d.2.2.2.2.2.2.2.2.2.1 d.2.2.2.2.2.2.2.2.2.2.1 d.2.2.2.2.2.2.2.2.2.2.2.1 d.2.2.2.2.2.2.2.2.2.2.2.2.1 d.2.2.2.2.2.2.2.2.2.2.2.2.2 (law04_Fit_11_0_x0 K)
noncomputable def law04_Fit_11_0_A {R : Type} (hrec_law04_Fit : law04_Fit_ty R) (K : Ex → St → Option R) (n : Nat) (d : law04_Fit_11_0_D) : Option R := law04_Fit_11_0_L hrec_law04_Fit n d.1 d.2.1 d.2.2.1 d.2.2.2.1 d.2.2.2.2.1 d.2.2.2.2.2.1 d.2.2.2.2.2.2.1 d.2.2.2.2.2.2.2.1 d.2.2.2.2.2.2.2.2.1 d.2.2.2.2.2.2.2.2.2.1 d.2.2.2.2.2.2.2.2.2.2.1 d.2.2.2.2.2.2.2.2.2.2.2.1 d.2.2.2.2.2.2.2.2.2.2.2.2.1 d.2.2.2.2.2.2.2.2.2.2.2.2.2 (law04_Fit_11_0_x0 K)
abbrev law04_Fit_11_0_p : List Pat := [.leaf (.undef), .leaf (.int .i64), .leaf (.ptr 0 0), .leaf (.undef), .leaf (.ptr 1 0), .leaf (.int .i64), .leaf (.ptr 2 0), .leaf (.int .i64), .leaf (.undef), .leaf (.undef), .leaf (.undef), .leaf (.undef), .leaf (.undef), .leaf (.undef), .leaf (.undef), .leaf (.undef), .leaf (.undef), .leaf (.undef), .leaf (.undef), .leaf (.undef), .leaf (.undef), .leaf (.undef), .leaf (.undef), .leaf (.undef), .leaf (.undef), .leaf (.undef), .leaf (.undef), .leaf (.undef), .leaf (.undef), .leaf (.undef), .leaf (.undef), .leaf (.undef), .leaf (.undef), .leaf (.undef), .leaf (.undef), .leaf (.undef), .leaf (.undef), .leaf (.undef), .leaf (.undef), .leaf (.undef), .leaf (.undef), .leaf (.undef), .leaf (.undef), .leaf (.undef), .leaf (.undef), .leaf (.undef), .leaf (.undef), .leaf (.undef), .leaf (.undef), .leaf (.undef), .leaf (.undef), .leaf (.undef), .leaf (.undef), .leaf (.undef), .leaf (.undef), .leaf (.undef), .leaf (.undef), .leaf (.undef), .leaf (.undef), .leaf (.undef), .leaf (.undef), .leaf (.undef), .leaf (.undef), .leaf (.undef), .leaf (.undef), .leaf (.undef), .leaf (.undef), .leaf (.undef), .leaf (.undef), .leaf (.undef), .leaf (.undef), .leaf (.undef), .leaf (.undef), .leaf (.undef), .leaf (.undef), .leaf (.undef), .leaf (.undef), .leaf (.undef), .leaf (.undef), .leaf (.undef), .leaf (.undef), .leaf (.undef), .leaf (.undef), .leaf (.undef), .leaf (.undef), .leaf (.undef), .leaf (.undef), .leaf (.undef), .leaf (.undef), .leaf (.undef), .leaf (.undef), .leaf (.undef), .leaf (.undef), .leaf (.undef), .leaf (.undef), .leaf (.undef), .leaf (.undef), .leaf (.undef), .leaf (.undef), .leaf (.undef), .leaf (.undef), .leaf (.undef), .leaf (.undef), .leaf (.undef), .leaf (.undef)]
abbrev law04_Fit_11_0_q : List HPat := [.cells [.int .i64, .int .i64, .int .i64, .sl (.int .i64), .sl .raw], .cells [.int .i64, .int .i64, .int .i64, .str, .nilsl, .nilsl], .cells [.int .i64, .int .i64, .int .i64, .str, .slo .str 3, .slo .json 4], .tok, .tok]
noncomputable def law04_Fit_11_0_f (x : Pat.dens law04_Fit_11_0_p) (y : HPat.dens law04_Fit_11_0_q) : Nat := (Int.natAbs x.2.1 + Int.natAbs x.2.2.2.2.2.1 + Int.natAbs x.2.2.2.2.2.2.2.1 + Raw.fu (⟨y.1.1, y.1.2.1, y.1.2.2.1, y.1.2.2.2.1, y.1.2.2.2.2.1⟩ : Raw) + Int.natAbs y.2.1.1 + Int.natAbs y.2.1.2.1 + Int.natAbs y.2.1.2.2.1 + List.length y.2.1.2.2.2.1 + Int.natAbs y.2.2.1.1 + Int.natAbs y.2.2.1.2.1 + Int.natAbs y.2.2.1.2.2.1 + List.length y.2.2.1.2.2.2.1 + List.length y.2.2.1.2.2.2.2.1 + List.length y.2.2.1.2.2.2.2.2.1 + 3)
noncomputable def law04_Fit_11_0_d (x : Pat.dens law04_Fit_11_0_p) (y : HPat.dens law04_Fit_11_0_q) : law04_Fit_11_0_D := (x.2.1, x.2.2.2.2.2.1, x.2.2.2.2.2.2.2.1, (⟨y.1.1, y.1.2.1, y.1.2.2.1, y.1.2.2.2.1, y.1.2.2.2.2.1⟩ : Raw), y.2.1.1, y.2.1.2.1, y.2.1.2.2.1, y.2.1.2.2.2.1, y.2.2.1.1, y.2.2.1.2.1, y.2.2.1.2.2.1, y.2.2.1.2.2.2.1, y.2.2.1.2.2.2.2.1, y.2.2.1.2.2.2.2.2.1)
noncomputable def law04_Fit_11_0_rr {R : Type} (L : law04_Fit_11_0_ty R) : Pat.dens law04_Fit_11_0_p → HPat.dens law04_Fit_11_0_q → (Ex → St → Option R) → Option R := fun x y K => L (law04_Fit_11_0_f x y) x.2.1 x.2.2.2.2.2.1 x.2.2.2.2.2.2.2.1 (⟨y.1.1, y.1.2.1, y.1.2.2.1, y.1.2.2.2.1, y.1.2.2.2.2.1⟩ : Raw) y.2.1.1 y.2.1.2.1 y.2.1.2.2.1 y.2.1.2.2.2.1 y.2.2.1.1 y.2.2.1.2.1 y.2.2.1.2.2.1 y.2.2.1.2.2.2.1 y.2.2.1.2.2.2.2.1 y.2.2.1.2.2.2.2.2.1 (law04_Fit_11_0_x0 K)
noncomputable def law04_Fit_T (R : Type) (law04_Fit_18_0_L : law04_Fit_18_0_ty R) (law04_Fit_11_0_L : law04_Fit_11_0_ty R) : Nat → Option (Hint × LSpec R) := fun i => match i with
  | 11 => some (law04_Fit_11_0_h, (loopBy law04_Fit_11_0_p law04_Fit_11_0_q (law04_Fit_11_0_rr law04_Fit_11_0_L) loopNo))
  | 18 => some (law04_Fit_18_0_h, (loopBy law04_Fit_18_0_p law04_Fit_18_0_q (law04_Fit_18_0_rr law04_Fit_18_0_L) loopNo))
  | _ => none

theorem law04_Fit_18_0_B_ok {R : Type} (hrec_law04_Fit : law04_Fit_ty R) (law04_pick : law04_pick_ty R) (law01_Fit : law01_Fit_ty R) (law02_Text : law02_Text_ty R) (law04_Fit_18_0_L : law04_Fit_18_0_ty R) (law04_Fit_11_0_L : law04_Fit_11_0_ty R) (K : Ex → St → Option R) (rc : St → Option R) (d : law04_Fit_18_0_D) : roundOf tt (law04_Fit_E R hrec_law04_Fit law04_pick law01_Fit law02_Text) (law04_Fit_T R law04_Fit_18_0_L law04_Fit_11_0_L) 0 ((loopsOf (codeOf Try.f23)).getD 1 .skip) law04_Fit_18_0_h (law04_Fit_18_0_enc d) rc K = law04_Fit_18_0_s K (fun d => rc (law04_Fit_18_0_enc d)) d := by kernel_rfl
theorem law04_Fit_18_0_A_succ {R : Type} (K : Ex → St → Option R) (n : Nat) (d : law04_Fit_18_0_D) : law04_Fit_18_0_A K (n + 1) d = law04_Fit_18_0_s K (law04_Fit_18_0_A K n) d := by kernel_rfl
theorem law04_Fit_18_0_A_zero {R : Type} (K : Ex → St → Option R) (d : law04_Fit_18_0_D) : law04_Fit_18_0_A K 0 d = none := by kernel_rfl
theorem law04_Fit_18_0_e_ok (x : Pat.dens law04_Fit_18_0_p) (y : HPat.dens law04_Fit_18_0_q) : (⟨Pat.encL law04_Fit_18_0_p x, HPat.encL law04_Fit_18_0_q y⟩ : St) = law04_Fit_18_0_enc (law04_Fit_18_0_d x y) := by kernel_rfl
theorem law04_Fit_18_0_r_ok {R : Type} (x : Pat.dens law04_Fit_18_0_p) (y : HPat.dens law04_Fit_18_0_q) (K : Ex → St → Option R) : law04_Fit_18_0_rr (law04_Fit_18_0_L) x y K = law04_Fit_18_0_A K (law04_Fit_18_0_f x y) (law04_Fit_18_0_d x y) := by kernel_rfl
theorem law04_Fit_18_0_ok {R : Type} (hrec_law04_Fit : law04_Fit_ty R) (other : LSpec R) (ho : LsOk tt (law04_Fit_E R hrec_law04_Fit law04_pick law01_Fit law02_Text) (law04_Fit_T R law04_Fit_18_0_L (law04_Fit_11_0_L hrec_law04_Fit)) 0 ((loopsOf (codeOf Try.f23)).getD 1 .skip) law04_Fit_18_0_h other) : LsOk tt (law04_Fit_E R hrec_law04_Fit law04_pick law01_Fit law02_Text) (law04_Fit_T R law04_Fit_18_0_L (law04_Fit_11_0_L hrec_law04_Fit)) 0 ((loopsOf (codeOf Try.f23)).getD 1 .skip) law04_Fit_18_0_h (loopBy law04_Fit_18_0_p law04_Fit_18_0_q (law04_Fit_18_0_rr (law04_Fit_18_0_L)) other) :=
  loopBy_tie (A := law04_Fit_18_0_A) ho (loop_tie law04_Fit_18_0_enc (law04_Fit_18_0_s) (law04_Fit_18_0_A) (law04_Fit_18_0_A_zero) (law04_Fit_18_0_B_ok hrec_law04_Fit law04_pick law01_Fit law02_Text law04_Fit_18_0_L (law04_Fit_11_0_L hrec_law04_Fit)) (law04_Fit_18_0_A_succ)) law04_Fit_18_0_f law04_Fit_18_0_d law04_Fit_18_0_e_ok (law04_Fit_18_0_r_ok)

theorem law04_Fit_11_0_B_ok {R : Type} (hrec_law04_Fit : law04_Fit_ty R) (law04_pick : law04_pick_ty R) (law01_Fit : law01_Fit_ty R) (law02_Text : law02_Text_ty R) (law04_Fit_18_0_L : law04_Fit_18_0_ty R) (law04_Fit_11_0_L : law04_Fit_11_0_ty R) (K : Ex → St → Option R) (rc : St → Option R) (d : law04_Fit_11_0_D) : roundOf tt (law04_Fit_E R hrec_law04_Fit law04_pick law01_Fit law02_Text) (law04_Fit_T R law04_Fit_18_0_L law04_Fit_11_0_L) 0 ((loopsOf (codeOf Try.f23)).getD 0 .skip) law04_Fit_11_0_h (law04_Fit_11_0_enc d) rc K = law04_Fit_11_0_s hrec_law04_Fit law02_Text law04_Fit_18_0_L K (fun d => rc (law04_Fit_11_0_enc d)) d := by kernel_rfl
theorem law04_Fit_11_0_A_succ {R : Type} (hrec_law04_Fit : law04_Fit_ty R) (K : Ex → St → Option R) (n : Nat) (d : law04_Fit_11_0_D) : law04_Fit_11_0_A hrec_law04_Fit K (n + 1) d = law04_Fit_11_0_s hrec_law04_Fit law02_Text law04_Fit_18_0_L K (law04_Fit_11_0_A hrec_law04_Fit K n) d := by kernel_rfl
theorem law04_Fit_11_0_A_zero {R : Type} (hrec_law04_Fit : law04_Fit_ty R) (K : Ex → St → Option R) (d : law04_Fit_11_0_D) : law04_Fit_11_0_A hrec_law04_Fit K 0 d = none := by kernel_rfl
theorem law04_Fit_11_0_e_ok (x : Pat.dens law04_Fit_11_0_p) (y : HPat.dens law04_Fit_11_0_q) : (⟨Pat.encL law04_Fit_11_0_p x, HPat.encL law04_Fit_11_0_q y⟩ : St) = law04_Fit_11_0_enc (law04_Fit_11_0_d x y) := by kernel_rfl
theorem law04_Fit_11_0_r_ok {R : Type} (hrec_law04_Fit : law04_Fit_ty R) (x : Pat.dens law04_Fit_11_0_p) (y : HPat.dens law04_Fit_11_0_q) (K : Ex → St → Option R) : law04_Fit_11_0_rr (law04_Fit_11_0_L hrec_law04_Fit) x y K = law04_Fit_11_0_A hrec_law04_Fit K (law04_Fit_11_0_f x y) (law04_Fit_11_0_d x y) := by kernel_rfl
theorem law04_Fit_11_0_ok {R : Type} (hrec_law04_Fit : law04_Fit_ty R) (other : LSpec R) (ho : LsOk tt (law04_Fit_E R hrec_law04_Fit law04_pick law01_Fit law02_Text) (law04_Fit_T R law04_Fit_18_0_L (law04_Fit_11_0_L hrec_law04_Fit)) 0 ((loopsOf (codeOf Try.f23)).getD 0 .skip) law04_Fit_11_0_h other) : LsOk tt (law04_Fit_E R hrec_law04_Fit law04_pick law01_Fit law02_Text) (law04_Fit_T R law04_Fit_18_0_L (law04_Fit_11_0_L hrec_law04_Fit)) 0 ((loopsOf (codeOf Try.f23)).getD 0 .skip) law04_Fit_11_0_h (loopBy law04_Fit_11_0_p law04_Fit_11_0_q (law04_Fit_11_0_rr (law04_Fit_11_0_L hrec_law04_Fit)) other) :=
  loopBy_tie (A := law04_Fit_11_0_A hrec_law04_Fit) ho (loop_tie law04_Fit_11_0_enc (law04_Fit_11_0_s hrec_law04_Fit law02_Text law04_Fit_18_0_L) (law04_Fit_11_0_A hrec_law04_Fit) (law04_Fit_11_0_A_zero hrec_law04_Fit) (law04_Fit_11_0_B_ok hrec_law04_Fit law04_pick law01_Fit law02_Text law04_Fit_18_0_L (law04_Fit_11_0_L hrec_law04_Fit)) (law04_Fit_11_0_A_succ hrec_law04_Fit)) law04_Fit_11_0_f law04_Fit_11_0_d law04_Fit_11_0_e_ok (law04_Fit_11_0_r_ok hrec_law04_Fit)

noncomputable def law04_Fit_X {R : Type} (law04_pick : law04_pick_ty R) (law01_Fit : law01_Fit_ty R) (law02_Text : law02_Text_ty R) (law04_Fit_11_0_L : law04_Fit_11_0_ty R) (x1 : Raw) (x2 : Int) (k0 : Json → Option R) : Option R :=
  law04_pick x1.kind 7 (fun y3 => bif ((IntKind.i64.wrap (1 + y3)) == 4) then (law01_Fit x1.mant x1.exp (fun y4 => k0 (⟨(IntKind.i64.wrap (1 + y3)), ⟨y4.mant, y4.exp⟩, ([] : Str), ([] : List Str), ([] : List Json)⟩ : Json))) else (bif ((IntKind.i64.wrap (1 + y3)) == 5) then (chk (decide ((0 : Int) ≤ (min (x1.text.length : Int) 20)) && decide ((min (x1.text.length : Int) 20) ≤ x1.text.length)) (chk (decide ((0 : Int) ≤ (min (x1.text.length : Int) 20))) (law02_Text ((x1.text.drop 0).take ((min (x1.text.length : Int) 20).toNat - 0)) (fun y5 => k0 (⟨(IntKind.i64.wrap (1 + y3)), ⟨0, 0⟩, y5, ([] : List Str), ([] : List Json)⟩ : Json))))) else (let j71 := fun (z6 : Bool) => bif z6 then (law04_Fit_11_0_L (Int.natAbs x2 + Int.natAbs (IntKind.i64.wrap (1 + y3)) + Int.natAbs 0 + Raw.fu (⟨x1.kind, x1.mant, x1.exp, x1.text, x1.items⟩ : Raw) + Int.natAbs 0 + Int.natAbs 0 + Int.natAbs 0 + List.length ([] : Str) + Int.natAbs (IntKind.i64.wrap (1 + y3)) + Int.natAbs 0 + Int.natAbs 0 + List.length ([] : Str) + List.length ([] : List Str) + List.length ([] : List Json) + 3) x2 (IntKind.i64.wrap (1 + y3)) 0 (⟨x1.kind, x1.mant, x1.exp, x1.text, x1.items⟩ : Raw) 0 0 0 ([] : Str) (IntKind.i64.wrap (1 + y3)) 0 0 ([] : Str) ([] : List Str) ([] : List Json) (fun y61 y62 y63 y64 y65 y66 y67 y68 y69 y70 => k0 (⟨y65, ⟨y66, y67⟩, y68, y69, y70⟩ : Json))) else (k0 (⟨(IntKind.i64.wrap (1 + y3)), ⟨0, 0⟩, ([] : Str), ([] : List Str), ([] : List Json)⟩ : Json)); bif ((IntKind.i64.wrap (1 + y3)) == 6) then (j71 ((IntKind.i64.wrap (1 + y3)) == 6)) else (j71 ((IntKind.i64.wrap (1 + y3)) == 7)))))
noncomputable def law04_Fit_B {R : Type} (hrec_law04_Fit : law04_Fit_ty R) : law04_Fit_ty R := fun x1 x2 k0 => law04_Fit_X law04_pick law01_Fit law02_Text (law04_Fit_11_0_L hrec_law04_Fit) x1 x2 k0
theorem law04_Fit_ok {R : Type} (hrec_law04_Fit : law04_Fit_ty R) (law04_pick : law04_pick_ty R) (law01_Fit : law01_Fit_ty R) (law02_Text : law02_Text_ty R) (law04_Fit_18_0_L : law04_Fit_18_0_ty R) (law04_Fit_11_0_L : law04_Fit_11_0_ty R) (x1 : Raw) (x2 : Int) (k : V → Heap → Option R) : funK tt (law04_Fit_E R hrec_law04_Fit law04_pick law01_Fit law02_Text) (law04_Fit_T R law04_Fit_18_0_L law04_Fit_11_0_L) false Try.f23 (codeOf Try.f23) [.agg [.int .i64 x1.kind, .int .i64 x1.mant, .int .i64 x1.exp, .sl (.int .i64) x1.text .no, .sl .raw x1.items .no], .int .i64 x2] [] k =
    law04_Fit_X law04_pick law01_Fit law02_Text law04_Fit_11_0_L x1 x2 (fun q0 => k (.agg [.int .i64 q0.kind, .int .i64 q0.num.mant, .int .i64 q0.num.exp, .str q0.text, .sl .str q0.names .no, .sl .json q0.items .no]) []) := by kernel_rfl
theorem law04_Fit_loops (R : Type) (hrec_law04_Fit : law04_Fit_ty R) : ∀ a ∈ loopsOf (codeOf Try.f23), LoopOk tt (law04_Fit_E R hrec_law04_Fit law04_pick law01_Fit law02_Text) (law04_Fit_T R law04_Fit_18_0_L (law04_Fit_11_0_L hrec_law04_Fit)) 0 a := by
  refine loops_ok 2 (by kernel_rfl) fun i hi => ?_
  match i, hi with
  | 0, _ => exact loopOk_some (by kernel_rfl) (law04_Fit_11_0_ok hrec_law04_Fit _ loopNo_ok)
  | 1, _ => exact loopOk_some (by kernel_rfl) (law04_Fit_18_0_ok hrec_law04_Fit _ loopNo_ok)
  | n + 2, hi => omega
theorem law04_Fit_S_okB (R : Type) (hrec_law04_Fit : law04_Fit_ty R) (hyp_law04_Fit : Yard.Spec.Ok Try.prog 23 (specBy law04_Fit_p law04_Fit_q (law04_Fit_rr hrec_law04_Fit) specNo)) (other : Yard.Spec R) (ho : Yard.Spec.Ok Try.prog 23 other) : Yard.Spec.Ok Try.prog 23 (specBy law04_Fit_p law04_Fit_q (law04_Fit_rr (law04_Fit_B hrec_law04_Fit)) other) :=
  specBy_ok ho (funK_sound TT mixed (law04_Fit_EOk R hrec_law04_Fit hyp_law04_Fit) (keep := false) rfl rfl rfl rfl 0 (law04_Fit_loops R hrec_law04_Fit)) fun (x : Pat.dens law04_Fit_p) (y : HPat.dens law04_Fit_q) k => law04_Fit_ok hrec_law04_Fit law04_pick law01_Fit law02_Text law04_Fit_18_0_L (law04_Fit_11_0_L hrec_law04_Fit) (⟨x.1.1, x.1.2.1, x.1.2.2.1, x.1.2.2.2.1, x.1.2.2.2.2.1⟩ : Raw) x.2.1 k
noncomputable def law04_Fit_N {R : Type} : Nat → law04_Fit_ty R
  | 0, _, _, _ => none
  | n + 1, x0', x1', k0' => law04_Fit_B (law04_Fit_N n) x0' x1' k0'
theorem law04_Fit_N_succ {R : Type} (n : Nat) : law04_Fit_N (R := R) (n + 1) = law04_Fit_B (law04_Fit_N n) := by kernel_rfl
theorem law04_Fit_N_ok (R : Type) : ∀ n, Yard.Spec.Ok Try.prog 23 (specBy law04_Fit_p law04_Fit_q (law04_Fit_rr (law04_Fit_N (R := R) n)) specNo) :=
  specBy_fuel (run := fun n => law04_Fit_rr (law04_Fit_N (R := R) n)) (fun x y k => by kernel_rfl) fun n hyp => law04_Fit_S_okB R (law04_Fit_N n) hyp specNo (specNo_ok _)
noncomputable def law04_Fit {R : Type} : law04_Fit_ty R := fun x1 x2 k0 => law04_Fit_N (Raw.depth x1 + 2) x1 x2 k0
theorem law04_Fit_r_ok (R : Type) : law04_Fit_rr (R := R) law04_Fit = fun x y k => law04_Fit_rr (law04_Fit_N (Raw.depth (⟨x.1.1, x.1.2.1, x.1.2.2.1, x.1.2.2.2.1, x.1.2.2.2.2.1⟩ : Raw) + 2)) x y k := by kernel_rfl
theorem law04_Fit_S_ok (R : Type) (other : Yard.Spec R) (ho : Yard.Spec.Ok Try.prog 23 other) : Yard.Spec.Ok Try.prog 23 (specBy law04_Fit_p law04_Fit_q (law04_Fit_rr law04_Fit) other) :=
  specBy_run (specBy_at (run := fun n => law04_Fit_rr (law04_Fit_N (R := R) n)) (fun x y => (Raw.depth (⟨x.1.1, x.1.2.1, x.1.2.2.1, x.1.2.2.2.1, x.1.2.2.2.2.1⟩ : Raw) + 2)) ho (law04_Fit_N_ok R)) (law04_Fit_r_ok R)

/-! ### slices.Contains[[]string,string] -/
abbrev slices_Contains_stringstring_ty (R : Type) : Type := (List Str) → Str → (Bool → Option R) → Option R
abbrev slices_Contains_stringstring_p : List Pat := [.leaf (.sl .str), .leaf (.str)]
abbrev slices_Contains_stringstring_q : List HPat := []
noncomputable def slices_Contains_stringstring_rr {R : Type} (fn : slices_Contains_stringstring_ty R) : Pat.dens slices_Contains_stringstring_p → HPat.dens slices_Contains_stringstring_q → (V → Heap → Option R) → Option R := fun x y k => fn x.1 x.2.1 (fun q0 => k (.bool q0) [])
noncomputable def slices_Contains_stringstring_E (R : Type) (slices_Index_stringstring : slices_Index_stringstring_ty R) : Env R := fun i => match i with
  | 90 => some (true, (specBy slices_Index_stringstring_p slices_Index_stringstring_q (slices_Index_stringstring_rr slices_Index_stringstring) specNo))
  | _ => none
theorem slices_Contains_stringstring_EOk (R : Type) : EOk Try.prog (slices_Contains_stringstring_E R slices_Index_stringstring) := by
  intro i b sp h
  unfold slices_Contains_stringstring_E at h
  split at h
  · cases h; exact (slices_Index_stringstring_S_ok R _ (specNo_ok _))
  · cases h

noncomputable def slices_Contains_stringstring_T (R : Type) : Nat → Option (Hint × LSpec R) := fun i => match i with
  | _ => none

noncomputable def slices_Contains_stringstring_X {R : Type} (slices_Index_stringstring : slices_Index_stringstring_ty R) (x1 : List Str) (x2 : Str) (k0 : Bool → Option R) : Option R :=
  slices_Index_stringstring x1 x2 (fun y3 => k0 (decide (y3 ≥ (0 : Int))))
noncomputable def slices_Contains_stringstring {R : Type} : slices_Contains_stringstring_ty R := fun x1 x2 k0 => slices_Contains_stringstring_X slices_Index_stringstring x1 x2 k0
theorem slices_Contains_stringstring_ok {R : Type} (slices_Index_stringstring : slices_Index_stringstring_ty R) (x1 : List Str) (x2 : Str) (k : V → Heap → Option R) : funK tt (slices_Contains_stringstring_E R slices_Index_stringstring) (slices_Contains_stringstring_T R) false Try.f66 (codeOf Try.f66) [.sl .str x1 .no, .str x2] [] k =
    slices_Contains_stringstring_X slices_Index_stringstring x1 x2 (fun q0 => k (.bool q0) []) := by kernel_rfl
theorem slices_Contains_stringstring_loops (R : Type) : ∀ a ∈ loopsOf (codeOf Try.f66), LoopOk tt (slices_Contains_stringstring_E R slices_Index_stringstring) (slices_Contains_stringstring_T R) 0 a := by
  refine loops_ok 0 (by kernel_rfl) fun i hi => ?_
  omega
theorem slices_Contains_stringstring_S_ok (R : Type) (other : Yard.Spec R) (ho : Yard.Spec.Ok Try.prog 66 other) : Yard.Spec.Ok Try.prog 66 (specBy slices_Contains_stringstring_p slices_Contains_stringstring_q (slices_Contains_stringstring_rr slices_Contains_stringstring) other) :=
  specBy_ok ho (funK_sound TT mixed (slices_Contains_stringstring_EOk R) (keep := false) rfl rfl rfl rfl 0 (slices_Contains_stringstring_loops R)) fun (x : Pat.dens slices_Contains_stringstring_p) (y : HPat.dens slices_Contains_stringstring_q) k => slices_Contains_stringstring_ok slices_Index_stringstring x.1 x.2.1 k

/-! ### slices.Clone[[]string,string] -/
abbrev slices_Clone_stringstring_ty (R : Type) : Type := (List Str) → ((List Str) → Option R) → Option R
abbrev slices_Clone_stringstring_p : List Pat := [.leaf (.sl .str)]
abbrev slices_Clone_stringstring_q : List HPat := []
noncomputable def slices_Clone_stringstring_rr {R : Type} (fn : slices_Clone_stringstring_ty R) : Pat.dens slices_Clone_stringstring_p → HPat.dens slices_Clone_stringstring_q → (V → Heap → Option R) → Option R := fun x y k => fn x.1 (fun q0 => k (.sl .str q0 .no) [])
noncomputable def slices_Clone_stringstring_E (R : Type) : Env R := fun i => match i with
  | _ => none
theorem slices_Clone_stringstring_EOk (R : Type) : EOk Try.prog (slices_Clone_stringstring_E R) := by
  intro i b sp h
  unfold slices_Clone_stringstring_E at h
  split at h
  · cases h

noncomputable def slices_Clone_stringstring_T (R : Type) : Nat → Option (Hint × LSpec R) := fun i => match i with
  | _ => none

noncomputable def slices_Clone_stringstring_X {R : Type} (x1 : List Str) (k0 : (List Str) → Option R) : Option R :=
  bif x1.isEmpty then (anyT (k0 ([] : List Str)) (chk (decide ((0 + x1.length) * 16 ≤ 140737488355328)) (k0 (([] : List Str) ++ x1)))) else (chk (decide ((0 + x1.length) * 16 ≤ 140737488355328)) (k0 (([] : List Str) ++ x1)))
noncomputable def slices_Clone_stringstring {R : Type} : slices_Clone_stringstring_ty R := fun x1 k0 => slices_Clone_stringstring_X x1 k0
theorem slices_Clone_stringstring_ok {R : Type} (x1 : List Str) (k : V → Heap → Option R) : funK tt (slices_Clone_stringstring_E R) (slices_Clone_stringstring_T R) false Try.f91 (codeOf Try.f91) [.sl .str x1 .no] [] k =
    slices_Clone_stringstring_X x1 (fun q0 => k (.sl .str q0 .no) []) := by kernel_rfl
theorem slices_Clone_stringstring_loops (R : Type) : ∀ a ∈ loopsOf (codeOf Try.f91), LoopOk tt (slices_Clone_stringstring_E R) (slices_Clone_stringstring_T R) 0 a := by
  refine loops_ok 0 (by kernel_rfl) fun i hi => ?_
  omega
theorem slices_Clone_stringstring_S_ok (R : Type) (other : Yard.Spec R) (ho : Yard.Spec.Ok Try.prog 91 other) : Yard.Spec.Ok Try.prog 91 (specBy slices_Clone_stringstring_p slices_Clone_stringstring_q (slices_Clone_stringstring_rr slices_Clone_stringstring) other) :=
  specBy_ok ho (funK_sound TT mixed (slices_Clone_stringstring_EOk R) (keep := false) rfl rfl rfl rfl 0 (slices_Clone_stringstring_loops R)) fun (x : Pat.dens slices_Clone_stringstring_p) (y : HPat.dens slices_Clone_stringstring_q) k => slices_Clone_stringstring_ok x.1 k

/-! ### slices.Clone[[]humpyard/api.Json,humpyard/api.Json] -/
abbrev slices_Clone_JsonJson_4f56_ty (R : Type) : Type := (List Json) → (Option R) → (Nat → (List Json) → Option R) → Option R
abbrev slices_Clone_JsonJson_4f56_p : List Pat := [.leaf (.sl .json)]
abbrev slices_Clone_JsonJson_4f56_q : List HPat := []
noncomputable def slices_Clone_JsonJson_4f56_rr {R : Type} (fn : slices_Clone_JsonJson_4f56_ty R) : Pat.dens slices_Clone_JsonJson_4f56_p → HPat.dens slices_Clone_JsonJson_4f56_q → (V → Heap → Option R) → Option R := fun x y k => fn x.1 (k (.nilsl) []) (fun q0 q1 => k (.row 0 q0) [.row .json q1])
noncomputable def slices_Clone_JsonJson_4f56_E (R : Type) : Env R := fun i => match i with
  | _ => none
theorem slices_Clone_JsonJson_4f56_EOk (R : Type) : EOk Try.prog (slices_Clone_JsonJson_4f56_E R) := by
  intro i b sp h
  unfold slices_Clone_JsonJson_4f56_E at h
  split at h
  · cases h

noncomputable def slices_Clone_JsonJson_4f56_T (R : Type) : Nat → Option (Hint × LSpec R) := fun i => match i with
  | _ => none

noncomputable def slices_Clone_JsonJson_4f56_X {R : Type} (x1 : List Json) (k0 : Option R) (k1 : Nat → (List Json) → Option R) : Option R :=
  bif x1.isEmpty then (anyT (k0) (chk (decide ((0 + x1.length) * 88 ≤ 140737488355328)) (k1 (0 + x1.length) (([] : List Json) ++ x1)))) else (chk (decide ((0 + x1.length) * 88 ≤ 140737488355328)) (k1 (0 + x1.length) (([] : List Json) ++ x1)))
noncomputable def slices_Clone_JsonJson_4f56 {R : Type} : slices_Clone_JsonJson_4f56_ty R := fun x1 k0 k1 => slices_Clone_JsonJson_4f56_X x1 k0 k1
theorem slices_Clone_JsonJson_4f56_ok {R : Type} (x1 : List Json) (k : V → Heap → Option R) : funK (tt.mode [.json]) (slices_Clone_JsonJson_4f56_E R) (slices_Clone_JsonJson_4f56_T R) true Try.f92 (codeOf Try.f92) [.sl .json x1 .no] [] k =
    slices_Clone_JsonJson_4f56_X x1 (k (.nilsl) []) (fun q0 q1 => k (.row 0 q0) [.row .json q1]) := by kernel_rfl
theorem slices_Clone_JsonJson_4f56_loops (R : Type) : ∀ a ∈ loopsOf (codeOf Try.f92), LoopOk (tt.mode [.json]) (slices_Clone_JsonJson_4f56_E R) (slices_Clone_JsonJson_4f56_T R) 0 a := by
  refine loops_ok 0 (by kernel_rfl) fun i hi => ?_
  omega
theorem slices_Clone_JsonJson_4f56_S_ok (R : Type) (other : Yard.Spec R) (ho : Yard.Spec.Ok Try.prog 92 other) : Yard.Spec.Ok Try.prog 92 (specBy slices_Clone_JsonJson_4f56_p slices_Clone_JsonJson_4f56_q (slices_Clone_JsonJson_4f56_rr slices_Clone_JsonJson_4f56) other) :=
  specBy_ok ho (funK_sound (TT.mode [.json]) mixed (slices_Clone_JsonJson_4f56_EOk R) (keep := true) rfl rfl rfl rfl 0 (slices_Clone_JsonJson_4f56_loops R)) fun (x : Pat.dens slices_Clone_JsonJson_4f56_p) (y : HPat.dens slices_Clone_JsonJson_4f56_q) k => slices_Clone_JsonJson_4f56_ok x.1 k

end Go.Proofs.Ytcocpfgemdkkfaa

