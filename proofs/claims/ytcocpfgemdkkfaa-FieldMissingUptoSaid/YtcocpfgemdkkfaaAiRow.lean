/-
  The abstract interpreter, part 36: from a function's spec to its row: it returns true, and what came in reads as it did. Own work.
-/
import Derived.Test.YtcocpfgemdkkfaaAiArg
import Derived.OpenShut
import Derived.JoinedCond
namespace Go.Yard
open Go.RowKit Go.ChangeShapes Go.WideShapes Go.Proofs.Ytcocpfgemdkkfaa

/-- What a law is asked. -/
def kOk : V → Heap → Option Unit := fun v _ => match v with | .bool true => some () | _ => none

/-- The world went on: what stood there stands. -/
def Later (w w' : World) : Prop := w'.os = w.os ∧ w'.output = w.output ∧ w.heap.size ≤ w'.heap.size ∧ ∀ b, b < w.heap.size → w'.heap[b]? = w.heap[b]?

section
variable {H : Type} {enc : TypeId × Value → H} {P : Program} {tt : TTab} {w : World} {spare : Nat → Bool} {held : Bool}

theorem none_owned (c : Cfg) (b y : Nat) : ¬ Owns ([] : Heap) c b y := fun ho => by
  obtain ⟨i, f, _, g2, _⟩ := ho
  simp [Heap.at, AObj.from_] at g2

theorem calls_true {g : Nat} {fn : Func} (hf : P.funcs[g]? = some fn) (hn : (fn.name == "runtime.NumGoroutine") = false) (hb : fn.body.isNone = false) {sp : Spec Unit} (hsp : Spec.Ok P g sp) {vs : List V} {args : Array Value}
    (ra : RepL w [] cfg0 vs args.toList) (hk : sp vs [] kOk = some ()) : Calls P g args w fun e w' => e = .returned (.bool true) ∧ Later w w' := by
  obtain ⟨nx, w1, h1, h2⟩ := hsp vs [] kOk () hk w cfg0 args (wf0 w) ra
  have hn' : fn.name ≠ "runtime.NumGoroutine" := by simpa using hn
  have hb' : fn.body ≠ none := fun e => by rw [e] at hb; cases hb
  have h0 : (callFunc g args).run P w = .ok (.enter g args) w := by simp [callFunc, hf, hn', hb']
  rw [h0] at h1
  cases h1
  refine Calls.mono h2 fun e w' ⟨d, he, v, h', c', _, x, rv, hv⟩ => ?_
  subst he
  have hv' : v = .bool true := by
    unfold kOk at hv
    split at hv
    · rfl
    · cases hv
  subst hv'
  cases rv
  exact ⟨rfl, x.os, x.output, x.size, fun b hb => x.block b hb (none_owned _ b)⟩

def oneCell (P : Program) (t : TypeId) : Bool :=
  match P.underlying t with
  | some .bool | some (.int _) | some .string | some (.slice _) => true
  | _ => false

theorem arg_one {N : Nat} (hall : LeavesOk P tt) {t : TypeId} {v : Value} {d : DataW H} {ps : List MemPlace} {p : Leaf} {base : Nat} (ho : oneCell P t = true) (hl : leavesOf P tt 8 t = some [p]) (hval : Value.okWide P w .any base t v)
    (h : DataW.Trod enc P w 0 spare held t v d ps) (hb : Rows.uptoBulk d ≤ N) (hN : N ≤ mx) : ∃ x : p.den, Rep w [] cfg0 (p.enc x) v ∧ Small N (p.enc x) := by
  obtain ⟨n, h⟩ := h
  obtain ⟨vs, ⟨x, rfl⟩, h2, h3⟩ := read_trod hall n t _ _ 8 _ h hl hb hN
  have hc : v.cells.toList = [v] := by
    unfold oneCell at ho
    unfold Value.okWide at hval
    cases hu : P.underlying t with
    | none => rw [hu] at ho; cases ho
    | some u =>
      rw [hu] at ho hval
      cases u <;> simp only at ho <;> try (first | cases ho) <;> (cases v <;> simp [Cell.okWide, Cell.ok, hu] at hval <;> rfl)
  rw [hc] at h2
  exact ⟨x.1, h2.head, h3 _ (by show p.enc x.1 ∈ [p.enc x.1]; simp)⟩

theorem params_ok {ts : List TypeId} (h : ts.all (fun t => P.readableRec t && decide (t < P.types.size)) = true) : ∀ t ∈ ts, P.readableRec t = true ∧ t < P.types.size := by
  intro t ht
  have := List.all_eq_true.1 h t ht
  simpa using this

def aggCell (P : Program) (t : TypeId) : Bool :=
  match P.underlying t with
  | some (.struct _) | some (.array _ _) => true
  | _ => false

theorem arg_agg {N : Nat} (hall : LeavesOk P tt) {t : TypeId} {v : Value} {d : DataW H} {ps : List MemPlace} {T : Ty} {base : Nat} (ho : aggCell P t = true) (hl : leavesOf P tt 8 t = some T.leaves) (hval : Value.okWide P w .any base t v)
    (h : DataW.Trod enc P w 0 spare held t v d ps) (hb : Rows.uptoBulk d ≤ N) (hN : N ≤ mx) : ∃ x : T.den, Rep w [] cfg0 (.agg (T.cells x)) v ∧ ∀ c ∈ T.cells x, Small N c := by
  obtain ⟨n, h⟩ := h
  obtain ⟨vs, ⟨x, rfl⟩, h2, h3⟩ := read_trod hall n t _ _ 8 _ h hl hb hN
  obtain ⟨y, hy⟩ := leaves_cells T x
  rw [← hy] at h2 h3
  have hc : ∃ cs, v = .agg cs := by
    unfold aggCell at ho
    unfold Value.okWide at hval
    cases hu : P.underlying t with
    | none => rw [hu] at ho; cases ho
    | some u =>
      rw [hu] at ho hval
      cases u <;> simp only at ho <;> try (first | cases ho) <;> (obtain ⟨cs, hc, _⟩ := hval; exact ⟨cs, hc⟩)
  obtain ⟨cs, rfl⟩ := hc
  exact ⟨y, .agg (by have := h2.1; simpa [Value.cells] using this) fun j v d hv hd => h2.2 j v d hv (by simpa [Value.cells] using hd), h3⟩

theorem args_later (hl : laidOutB P = true) {w' : World} (L : Later w w') : ∀ {ts : List TypeId} {vs : List Value} {ds : List (DataW H)} {ps : List MemPlace}, (∀ t ∈ ts, P.readableRec t = true ∧ t < P.types.size) →
    DataW.TrodAll enc P w 0 (fun _ => true) true ts vs ds ps → DataW.TrodAll enc P w' 0 (fun b => decide (b < w.heap.size)) true ts vs ds ps
  | [], vs, ds, ps, _, h => by obtain ⟨rfl, rfl, rfl⟩ := trodAll_nil h; exact h
  | t :: ts, vs, ds, ps, hp, h => by
    have hlt := h.lt
    obtain ⟨v, vs1, d, ds1, p, q, rfl, rfl, rfl, h1, h2⟩ := trodAll_cons h
    obtain ⟨hr, hrow⟩ := hp t (by simp)
    have hb : ∀ x ∈ p, x.block < w.heap.size := fun x hx => hlt x (by simp [hx])
    refine trodAll_cons_mk (WideElems.Trod_stays hl hr hrow h1 (fun x hx => ?_) fun x hx => by simpa using hb x hx) (args_later hl L (fun t ht => hp t (by simp [ht])) h2)
    have := L.2.2.2 _ (hb x hx)
    cases x with
    | cell b o => simp only [World.sameAt, World.cell?]; simp only [MemPlace.block] at this; rw [this]
    | map b => exact this

theorem kept_later {w' : World} (L : Later w w') (may : MemPlace → Prop) : w.keptBut w' may := by
  refine ⟨L.1, L.2.1, fun i hi => ?_⟩
  rw [L.2.2.2 i hi]
  cases w.heap[i]? with
  | none => rfl
  | some o => cases o <;> simp

theorem post_true (hl : laidOutB P = true) {f : Func} {s : ChangeSpec} {w' : World} {args : Array Value} {ds gs : List (DataW H)} {before : List MemPlace} {tb : TypeId} (hp : ∀ t ∈ f.params.toList, P.readableRec t = true ∧ t < P.types.size)
    (hv : s.vars = []) (hs : s.fn H (ds ++ gs) = { results := [.lit (.bool true)], args := ds }) (hres : f.resultTypes = #[tb]) (hb : P.underlying tb = some .bool)
    (hW : DataW.Whole enc P f.params.toList s.vars false w args.toList ds gs before) (L : Later w w') : s.post enc P f false true false false w args (.bool true) w' := by
  have hW' := hW
  obtain ⟨p, q, hA, hV, hpq, hz, hn⟩ := hW'
  rw [hv] at hV
  obtain ⟨hg, hq⟩ := trodVars_none hV
  subst hg; subst hq
  refine ⟨ds, [], before, [], p, [], hW, ?_, ?_, ?_, kept_later L _, fun h => by cases h⟩
  · rw [hs, hres]
    exact trodAll_cons_mk (shut_bool hb _) trodAll_mk0
  · rw [hs]
    exact args_later hl L hp hA
  · rw [hs, hv]
    rfl
end
end Go.Yard
