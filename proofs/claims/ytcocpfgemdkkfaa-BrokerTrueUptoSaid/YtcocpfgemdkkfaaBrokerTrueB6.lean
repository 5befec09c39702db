/-
  BrokerTrue: for every input whose bulk is at most 1048576 the law returns true, and each argument reads behind the call as it read before; part 6 of 8 of the proof: an interpreter of the model's code over typed data, proved sound; the functions that the law reaches, printed as Lean functions and tied; the plain law. Own texts laid one behind the other.
-/
import Derived.OpenShut
import Derived.JoinedCond
import Derived.Test.YtcocpfgemdkkfaaProg
import Derived.Laws.IdiomCopy
import Derived.Laws.Externs
import Derived.Test.YtcocpfgemdkkfaaBrokerTrueB5
set_option linter.unusedSimpArgs false
set_option linter.unnecessarySimpa false
set_option linter.unusedVariables false
set_option linter.unusedSectionVars false
namespace Go.Yard
open Go.RowKit Go.ChangeShapes Go.WideShapes Go.Proofs.Ytcocpfgemdkkfaa

def kOk : V → Heap → Option Unit := fun v _ => match v with | .bool true => some () | _ => none

def Later (w w' : World) : Prop := w'.os = w.os ∧ w'.output = w.output ∧ w.heap.size ≤ w'.heap.size ∧ ∀ b, b < w.heap.size → w'.heap[b]? = w.heap[b]?

section
variable {H : Type} {enc : TypeId × Value → H} {P : Program} {tt : TTab} {w : World} {spare : Nat → Bool} {held : Bool}

theorem none_owned (c : Cfg) (b y : Nat) : ¬ Owns ([] : Heap) c b y := fun ho => by
  obtain ⟨i, f, _, g2, _⟩ := ho
  simp [Heap.at, AObj.from_] at g2

theorem calls_true {g : Nat} {fn : Func} (hf : P.funcs[g]? = some fn) (hn : (fn.name == "runtime.NumGoroutine") = false) (hb : fn.body.isNone = false) {sp : Spec Unit} (hsp : Spec.Ok P g sp) {vs : List V} {args : Array Value}
    (hs : lay0.says w) (hb0 : ∀ b, lay0.blocks b → b < w.heap.size) (ra : RepL w [] cfg0 vs args.toList) (hk : sp vs [] kOk = some ()) : Calls P g args w fun e w' => e = .returned (.bool true) ∧ Later w w' := by
  obtain ⟨nx, w1, h1, h2⟩ := hsp vs [] kOk () hk w cfg0 args (wf0 w hs hb0) ra
  have hn' : fn.name ≠ "runtime.NumGoroutine" := by simpa using hn
  have hb' : fn.body ≠ none := fun e => by rw [e] at hb; cases hb
  have h0 : (callFunc g args).run P w = .ok (.enter g args) w := by simp [callFunc, hf, hn', hb']
  rw [h0] at h1
  cases h1
  refine Calls.mono h2 fun e w' ⟨d, he, v, h', c', _, x, rv, hv⟩ => ?_
  subst he
  have hv' : v = .bool true := by
    unfold kOk at hv
    split at hv
    · rfl
    · cases hv
  subst hv'
  cases rv
  exact ⟨rfl, x.os, x.output, x.size, fun b hb => x.block b hb (none_owned _ b)⟩

def oneCell (P : Program) (t : TypeId) : Bool :=
  match P.underlying t with
  | some .bool | some (.int _) | some .string | some (.slice _) => true
  | _ => false

theorem arg_one {N : Nat} (hall : LeavesOk P tt) {t : TypeId} {v : Value} {d : DataW H} {ps : List MemPlace} {p : Leaf} {base : Nat} (ho : oneCell P t = true) (hl : leavesOf P tt 8 t = some [p]) (hval : Value.okWide P w .any base t v)
    (h : DataW.Trod enc P w 0 spare held t v d ps) (hb : Rows.uptoBulk d ≤ N) (hN : N ≤ mx) : ∃ x : p.den, Rep w [] cfg0 (p.enc x) v ∧ Small N (p.enc x) := by
  obtain ⟨n, h⟩ := h
  obtain ⟨vs, ⟨x, rfl⟩, h2, h3⟩ := read_trod hall n t _ _ 8 _ h hl hb hN
  have hc : v.cells.toList = [v] := by
    unfold oneCell at ho
    unfold Value.okWide at hval
    cases hu : P.underlying t with
    | none => rw [hu] at ho; cases ho
    | some u =>
      rw [hu] at ho hval
      cases u <;> simp only at ho <;> try (first | cases ho) <;> (cases v <;> simp [Cell.okWide, Cell.ok, hu] at hval <;> rfl)
  rw [hc] at h2
  exact ⟨x.1, h2.head, h3 _ (by show p.enc x.1 ∈ [p.enc x.1]; simp)⟩

theorem params_ok {ts : List TypeId} (h : ts.all (fun t => P.readableRec t && decide (t < P.types.size)) = true) : ∀ t ∈ ts, P.readableRec t = true ∧ t < P.types.size := by
  intro t ht
  have := List.all_eq_true.1 h t ht
  simpa using this

theorem args_later (hl : laidOutB P = true) {w' : World} (L : Later w w') : ∀ {ts : List TypeId} {vs : List Value} {ds : List (DataW H)} {ps : List MemPlace}, (∀ t ∈ ts, P.readableRec t = true ∧ t < P.types.size) →
    DataW.TrodAll enc P w 0 (fun _ => true) true ts vs ds ps → DataW.TrodAll enc P w' 0 (fun b => decide (b < w.heap.size)) true ts vs ds ps
  | [], vs, ds, ps, _, h => by obtain ⟨rfl, rfl, rfl⟩ := trodAll_nil h; exact h
  | t :: ts, vs, ds, ps, hp, h => by
    have hlt := h.lt
    obtain ⟨v, vs1, d, ds1, p, q, rfl, rfl, rfl, h1, h2⟩ := trodAll_cons h
    obtain ⟨hr, hrow⟩ := hp t (by simp)
    have hb : ∀ x ∈ p, x.block < w.heap.size := fun x hx => hlt x (by simp [hx])
    refine trodAll_cons_mk (WideElems.Trod_stays hl hr hrow h1 (fun x hx => ?_) fun x hx => by simpa using hb x hx) (args_later hl L (fun t ht => hp t (by simp [ht])) h2)
    have := L.2.2.2 _ (hb x hx)
    cases x with
    | cell b o => simp only [World.sameAt, World.cell?]; simp only [MemPlace.block] at this; rw [this]
    | map b => exact this

theorem kept_later {w' : World} (L : Later w w') (may : MemPlace → Prop) : w.keptBut w' may := by
  refine ⟨L.1, L.2.1, fun i hi => ?_⟩
  rw [L.2.2.2 i hi]
  cases w.heap[i]? with
  | none => rfl
  | some o => cases o <;> simp

theorem post_true (hl : laidOutB P = true) {f : Func} {s : ChangeSpec} {w' : World} {args : Array Value} {ds gs : List (DataW H)} {before : List MemPlace} {tb : TypeId} (hp : ∀ t ∈ f.params.toList, P.readableRec t = true ∧ t < P.types.size)
    (hv : s.vars = []) (hs : s.fn H (ds ++ gs) = { results := [.lit (.bool true)], args := ds }) (hres : f.resultTypes = #[tb]) (hb : P.underlying tb = some .bool)
    (hW : DataW.Whole enc P f.params.toList s.vars false w args.toList ds gs before) (L : Later w w') : s.post enc P f false true false false w args (.bool true) w' := by
  have hW' := hW
  obtain ⟨p, q, hA, hV, hpq, hz, hn⟩ := hW'
  rw [hv] at hV
  obtain ⟨hg, hq⟩ := trodVars_none hV
  subst hg; subst hq
  refine ⟨ds, [], before, [], p, [], hW, ?_, ?_, ?_, kept_later L _, fun h => by cases h⟩
  · rw [hs, hres]
    exact trodAll_cons_mk (shut_bool hb _) trodAll_mk0
  · rw [hs]
    exact args_later hl L hp hA
  · rw [hs, hv]
    rfl
end
end Go.Yard

namespace Go.Yard

theorem wrap_id {n : Int} (h1 : -9223372036854775808 ≤ n) (h2 : n ≤ 9223372036854775807) : IntKind.i64.wrap n = n := by
  simp only [IntKind.wrap, IntKind.bits, IntKind.signed, IntKind.min, IntKind.max]
  simp
  omega

theorem getD_at {α : Type} {l : List α} {i : Nat} (h : i < l.length) (d : α) : l.getD i d = l[i] := by simp [List.getD, h]
end Go.Yard

namespace Go.Proofs.Ytcocpfgemdkkfaa
open Go.Yard

def tt : TTab := [
  ⟨.other, 1, 0, [.undef], none, false, false, false⟩,
  TI.none,
  ⟨.int .i64, 1, 8, [.int .i64 0], some (.int .i64), false, false, false⟩,
  ⟨.int .i64, 1, 8, [.int .i64 0], some (.int .i64), false, false, false⟩,
  ⟨.bool, 1, 1, [.bool false], some .bool, false, false, false⟩,
  ⟨.int .u8, 1, 1, [.int .u8 0], some (.int .u8), false, false, false⟩,
  TI.none,
  TI.none,
  TI.none,
  ⟨.string, 1, 16, [.str []], some .str, false, false, false⟩,
  TI.none,
  TI.none,
  TI.none,
  TI.none,
  TI.none,
  TI.none,
  TI.none,
  TI.none,
  TI.none,
  TI.none,
  TI.none,
  ⟨.int .i32, 1, 4, [.int .i32 0], some (.int .i32), false, false, false⟩,
  ⟨.slice 9, 1, 24, [.nilsl], none, false, false, false⟩,
  TI.none,
  ⟨.ptr 91, 1, 8, [.nilptr], none, false, false, false⟩,
  TI.none,
  TI.none,
  TI.none,
  ⟨.struct [(0, 9), (1, 9), (2, 4)], 3, 40, [.str [], .str [], .bool false], some .mail, true, false, false⟩,
  ⟨.other, 1, 0, [.undef], none, false, false, false⟩,
  TI.none,
  TI.none,
  TI.none,
  ⟨.slice 28, 1, 24, [.nilsl], none, false, false, false⟩,
  TI.none,
  TI.none,
  TI.none,
  TI.none,
  ⟨.slice 45, 1, 24, [.nilsl], none, false, false, false⟩,
  ⟨.slice 42, 1, 24, [.nilsl], none, false, false, false⟩,
  ⟨.slice 3, 1, 24, [.nilsl], none, false, false, false⟩,
  TI.none,
  ⟨.struct [(0, 3), (1, 3), (2, 3), (3, 40), (4, 39)], 5, 72, [.int .i64 0, .int .i64 0, .int .i64 0, .nilsl, .nilsl], some .raw, false, false, false⟩,
  ⟨.slice 49, 1, 24, [.nilsl], none, false, false, false⟩,
  TI.none,
  ⟨.struct [(0, 9), (1, 3), (2, 3), (3, 3), (4, 4)], 5, 48, [.str [], .int .i64 0, .int .i64 0, .int .i64 0, .bool false], some .fld, true, false, false⟩,
  TI.none,
  ⟨.struct [(0, 3), (1, 3)], 2, 16, [.int .i64 0, .int .i64 0], some .dcm, true, false, false⟩,
  TI.none,
  ⟨.struct [(0, 3), (1, 47), (3, 9), (4, 22), (5, 43)], 6, 88, [.int .i64 0, .int .i64 0, .int .i64 0, .str [], .nilsl, .nilsl], some .json, false, false, false⟩,
  TI.none,
  TI.none,
  TI.none,
  TI.none,
  TI.none,
  ⟨.other, 1, 0, [.undef], none, false, false, false⟩,
  TI.none,
  TI.none,
  TI.none,
  ⟨.other, 1, 0, [.undef], none, false, false, false⟩,
  TI.none,
  ⟨.other, 1, 0, [.undef], none, false, false, false⟩,
  TI.none,
  ⟨.other, 1, 0, [.undef], none, false, false, false⟩,
  TI.none,
  ⟨.other, 1, 0, [.undef], none, false, false, false⟩,
  TI.none,
  TI.none,
  TI.none,
  TI.none,
  TI.none,
  TI.none,
  TI.none,
  TI.none,
  TI.none,
  TI.none,
  TI.none,
  ⟨.slice 81, 1, 24, [.nilsl], none, false, false, false⟩,
  ⟨.ptr 120, 1, 8, [.nilptr], none, false, false, false⟩,
  TI.none,
  TI.none,
  ⟨.struct [(0, 3), (1, 3), (2, 3), (3, 5), (4, 9)], 5, 48, [.int .i64 0, .int .i64 0, .int .i64 0, .int .u8 0, .str []], some .op17, true, false, false⟩,
  TI.none,
  ⟨.map 9 4, 1, 8, [.nilmap], none, false, false, false⟩,
  TI.none,
  TI.none,
  ⟨.struct [], 0, 0, [], none, false, false, false⟩,
  ⟨.struct [], 0, 0, [], none, false, false, false⟩,
  TI.none,
  ⟨.struct [(0, 86), (0, 87), (0, 2)], 1, 8, [.int .i64 0], none, false, false, false⟩,
  TI.none,
  ⟨.struct [(0, 33), (1, 89)], 2, 32, [.nilsl, .int .i64 0], none, false, false, false⟩,
  TI.none,
  TI.none,
  ⟨.ptr 28, 1, 8, [.nilptr], none, false, false, false⟩,
  TI.none,
  TI.none,
  TI.none,
  TI.none,
  ⟨.slice 5, 1, 24, [.nilsl], none, false, false, false⟩,
  TI.none,
  TI.none,
  TI.none,
  TI.none,
  TI.none,
  TI.none,
  ⟨.func, 1, 8, [.nilfunc], none, false, false, false⟩,
  TI.none,
  ⟨.func, 1, 8, [.nilfunc], none, false, false, false⟩,
  TI.none,
  ⟨.func, 1, 8, [.nilfunc], none, false, false, false⟩,
  TI.none,
  ⟨.func, 1, 8, [.nilfunc], none, false, false, false⟩,
  TI.none,
  ⟨.func, 1, 8, [.nilfunc], none, false, false, false⟩,
  TI.none,
  ⟨.other, 1, 0, [.undef], none, false, false, false⟩,
  TI.none,
  TI.none,
  TI.none,
  ⟨.struct [(0, 33), (1, 3)], 2, 32, [.nilsl, .int .i64 0], none, false, false, false⟩,
  ⟨.ptr 89, 1, 8, [.nilptr], none, false, false, false⟩,
  TI.none,
  ⟨.ptr 2, 1, 8, [.nilptr], none, false, false, false⟩,
  TI.none,
  ⟨.slice 21, 1, 24, [.nilsl], none, false, false, false⟩,
  TI.none,
  TI.none,
  TI.none,
  TI.none,
  TI.none,
  TI.none,
  TI.none,
  TI.none,
  TI.none,
  TI.none,
  TI.none,
  TI.none,
  TI.none,
  TI.none,
  TI.none,
  TI.none,
  TI.none,
  TI.none,
  TI.none,
  TI.none,
  TI.none,
  TI.none,
  TI.none,
  TI.none,
  TI.none,
  TI.none]

end Go.Proofs.Ytcocpfgemdkkfaa

namespace Go.Yard
open Go.RowKit

def U : Nat → List V → List V
  | 0, l => l
  | n + 1, l => .undef :: U n l
def PU : Nat → List Pat → List Pat
  | 0, l => l
  | n + 1, l => .leaf .undef :: PU n l

section
variable {R : Type} {P : Program} {tt : TTab}

abbrev Run (R : Type) (ps : List Pat) (hs : List HPat) : Type := Pat.dens ps → HPat.dens hs → (V → Heap → Option R) → Option R
abbrev LRun (R : Type) (ps : List Pat) (hs : List HPat) : Type := Pat.dens ps → HPat.dens hs → (Ex → St → Option R) → Option R
abbrev t8 {a b c d e f g h i : Type} (x : a × b × c × d × e × f × g × h × i) : i := x.2.2.2.2.2.2.2.2
def OkS (P : Program) (g : Nat) (s : Spec R → Spec R) : Prop := ∀ o, Spec.Ok P g o → Spec.Ok P g (s o)
abbrev Ent (R : Type) := Nat × Bool × Spec R
def envL : List (Ent R) → Env R
  | [], _ => none
  | e :: l, i => bif Nat.beq i e.1 then some e.2 else envL l i
inductive EntOk (P : Program) : List (Ent R) → Prop
  | n : EntOk P []
  | p {g : Nat} {sp : Spec R} {l : List (Ent R)} (h : Spec.Ok P g sp) (t : EntOk P l) : EntOk P ((g, true, sp) :: l)
  | f {g : Nat} {sp : Spec R} {l : List (Ent R)} (h : Spec.Ok P g sp) (hs : lay0.soft g = false) (t : EntOk P l) : EntOk P ((g, false, sp) :: l)
  | s {g : Nat} {sp : Spec R} {l : List (Ent R)} (h : Spec.Ok P g sp) (hs : SoftSpec sp) (t : EntOk P l) : EntOk P ((g, false, sp) :: l)
theorem EntOk.c {g : Nat} {s : Spec R → Spec R} {l : List (Ent R)} (h : OkS P g s) (t : EntOk P l) : EntOk P ((g, true, s specNo) :: l) := .p (h _ (specNo_ok _)) t
theorem EntOk.d {g : Nat} {s : Spec R → Spec R} {l : List (Ent R)} (h : OkS P g s) (hs : lay0.soft g = false) (t : EntOk P l) : EntOk P ((g, false, s specNo) :: l) := .f (h _ (specNo_ok _)) hs t
theorem envL_ok {l : List (Ent R)} (h : EntOk P l) : EOk P (envL l) := by
  induction h with
  | n => intro i b sp h; cases h
  | p h0 t ih =>
    intro i b sp h
    simp only [envL] at h
    cases hb : Nat.beq i _ with
    | true =>
      rw [hb, cond_true] at h
      cases h
      have := Nat.eq_of_beq_eq_true hb
      subst this
      exact ⟨h0, fun h => by cases h⟩
    | false =>
      rw [hb, cond_false] at h
      exact ih i b sp h
  | f h0 hs t ih =>
    intro i b sp h
    simp only [envL] at h
    cases hb : Nat.beq i _ with
    | true =>
      rw [hb, cond_true] at h
      cases h
      have := Nat.eq_of_beq_eq_true hb
      subst this
      exact ⟨h0, fun _ h => by rw [hs] at h; cases h⟩
    | false =>
      rw [hb, cond_false] at h
      exact ih i b sp h
  | s h0 hs t ih =>
    intro i b sp h
    simp only [envL] at h
    cases hb : Nat.beq i _ with
    | true =>
      rw [hb, cond_true] at h
      cases h
      have := Nat.eq_of_beq_eq_true hb
      subst this
      exact ⟨h0, fun _ _ => hs⟩
    | false =>
      rw [hb, cond_false] at h
      exact ih i b sp h

def Tied (tt : TTab) (l : List (Ent R)) (L : Nat → Option (Hint × LSpec R)) (keep : Bool) (fn : Func) (ps : List Pat) (hs : List HPat) (run : Run R ps hs) : Prop :=
  ∀ x y k, funK tt (envL l) L keep fn (codeOf fn) (Pat.encL ps x) (HPat.encL hs y) k = run x y k
theorem tie_ok (T : TOK P tt) (hm : P.follows .mixedOrders = true) {l : List (Ent R)} (hE : EntOk P l) {L : Nat → Option (Hint × LSpec R)} {g : Nat} {fn : Func} {keep : Bool} {ps : List Pat} {hs : List HPat}
    {run : Run R ps hs} (hf : P.funcs[g]? = some fn) (hb : fn.body = some (codeOf fn)) (hn : (fn.name == "runtime.NumGoroutine") = false) (hr : fn.results.size = fn.resultTypes.size)
    (hl : ∀ a ∈ loopsOf (codeOf fn), LoopOk tt (envL l) L hs.length a) (h : Tied tt l L keep fn ps hs run) : OkS P g (specBy ps hs run) :=
  fun _ ho => specBy_ok ho (funK_sound T hm (envL_ok hE) hf hb hn hr hs.length hl) h

def noT : Nat → Option (Hint × LSpec R) := fun _ => none
theorem noT_ok {E : Env R} {l : List Code} {m : Nat} : ∀ a ∈ l, LoopOk tt E noT m a := fun _ _ _ _ h => by cases h
def AllT (Q : Nat → Prop) : List Nat → Prop
  | [] => True
  | t :: l => Q t ∧ AllT Q l
theorem AllT.mem {Q : Nat → Prop} : ∀ {l : List Nat} {t : Nat}, AllT Q l → l.contains t = true → Q t
  | a :: l, t, h, ht => by
    rw [List.contains_cons, Bool.or_eq_true, beq_iff_eq] at ht
    rcases ht with rfl | ht
    · exact h.1
    · exact AllT.mem h.2 ht
def TD.off : TD → Bool
  | .other => true
  | _ => false
theorem offT {l : List Nat} (h : (List.range tt.length).all (fun t => l.contains t || ((tt.at t).d.off && !(tt.at t).eq)) = true) {t : Nat} (ht : l.contains t = false) : (tt.at t).d = .other ∧ (tt.at t).eq = false := by
  by_cases hl : t < tt.length
  · have := List.all_eq_true.1 h t (by simpa using hl)
    rw [ht, Bool.false_or, Bool.and_eq_true] at this
    refine ⟨?_, by simpa using this.2⟩
    cases hd : (tt.at t).d <;> rw [hd] at this <;> first | rfl | cases this.1
  · have : tt.at t = TI.none := by unfold TTab.at; simp [List.getD, List.getElem?_eq_none (Nat.le_of_not_lt hl)]
    rw [this]
    exact ⟨rfl, rfl⟩
theorem undT {l : List Nat} (h : (List.range tt.length).all (fun t => l.contains t || ((tt.at t).d.off && !(tt.at t).eq)) = true) (ha : AllT (fun t => (tt.at t).d.Is P t) l) (t : Nat) : (tt.at t).d.Is P t := by
  cases ht : l.contains t with
  | true => exact ha.mem ht
  | false =>
    rw [(offT h ht).1]
    trivial
theorem infT {l : List Nat} (h : (List.range tt.length).all (fun t => l.contains t || ((tt.at t).d.off && !(tt.at t).eq)) = true) (ha : AllT (fun t => InfoOk P tt t) l) (t : Nat) (ok : tt.ok t = true) : InfoOk P tt t := by
  cases ht : l.contains t with
  | true => exact ha.mem ht
  | false =>
    unfold TTab.ok at ok
    rw [(offT h ht).1] at ok
    cases ok
theorem eqT {l : List Nat} (h : (List.range tt.length).all (fun t => l.contains t || ((tt.at t).d.off && !(tt.at t).eq)) = true) (ha : AllT (fun t => (tt.at t).eq = true → EqFlat P tt t) l) (t : Nat) (hq : (tt.at t).eq = true) : EqFlat P tt t := by
  cases ht : l.contains t with
  | true => exact ha.mem ht hq
  | false =>
    rw [(offT h ht).2] at hq
    cases hq
theorem InfoOk.at {t : Nat} (i : TypeInfo) (h : (P.info? t, i.size, i.bytes, zeroOf i) = (some i, (tt.at t).size, (tt.at t).bytes, some ((tt.at t).size, (tt.at t).zero, !tt.isAgg t))) : InfoOk P tt t := by
  simp only [Prod.mk.injEq] at h
  exact ⟨i, h.1, h.2.1, h.2.2.1, h.2.2.2⟩
end
end Go.Yard

set_option maxRecDepth 100000
namespace Go.Proofs.Ytcocpfgemdkkfaa
open Go Go.Yard

def liveT : List Nat := [2, 3, 4, 5, 9, 21, 22, 24, 28, 33, 38, 39, 40, 42, 43, 45, 47, 49, 77, 78, 81, 83, 86, 87, 89, 91, 94, 99, 106, 108, 110, 112, 114, 120, 121, 123, 125]
theorem liveOk : (List.range tt.length).all (fun t => liveT.contains t || ((tt.at t).d.off && !(tt.at t).eq)) = true := by kernel_rfl
theorem TTund : ∀ t, (tt.at t).d.Is Try.prog t := undT liveOk ⟨(by kernel_rfl : Try.prog.underlying 2 = some (.int .i64)), (by kernel_rfl : Try.prog.underlying 3 = some (.int .i64)), (by kernel_rfl : Try.prog.underlying 4 = some .bool), (by kernel_rfl : Try.prog.underlying 5 = some (.int .u8)), (by kernel_rfl : Try.prog.underlying 9 = some .string), (by kernel_rfl : Try.prog.underlying 21 = some (.int .i32)), (by kernel_rfl : Try.prog.underlying 22 = some (.slice 9)), (by kernel_rfl : Try.prog.underlying 24 = some (.pointer 91)), ⟨Try.prog.fieldsOf 28, by kernel_rfl, by kernel_rfl⟩, (by kernel_rfl : Try.prog.underlying 33 = some (.slice 28)), (by kernel_rfl : Try.prog.underlying 38 = some (.slice 45)), (by kernel_rfl : Try.prog.underlying 39 = some (.slice 42)), (by kernel_rfl : Try.prog.underlying 40 = some (.slice 3)), ⟨Try.prog.fieldsOf 42, by kernel_rfl, by kernel_rfl⟩, (by kernel_rfl : Try.prog.underlying 43 = some (.slice 49)), ⟨Try.prog.fieldsOf 45, by kernel_rfl, by kernel_rfl⟩, ⟨Try.prog.fieldsOf 47, by kernel_rfl, by kernel_rfl⟩, ⟨Try.prog.fieldsOf 49, by kernel_rfl, by kernel_rfl⟩, (by kernel_rfl : Try.prog.underlying 77 = some (.slice 81)), (by kernel_rfl : Try.prog.underlying 78 = some (.pointer 120)), ⟨Try.prog.fieldsOf 81, by kernel_rfl, by kernel_rfl⟩, (by kernel_rfl : Try.prog.underlying 83 = some (.map 9 4)), ⟨Try.prog.fieldsOf 86, by kernel_rfl, by kernel_rfl⟩, ⟨Try.prog.fieldsOf 87, by kernel_rfl, by kernel_rfl⟩, ⟨Try.prog.fieldsOf 89, by kernel_rfl, by kernel_rfl⟩, ⟨Try.prog.fieldsOf 91, by kernel_rfl, by kernel_rfl⟩, (by kernel_rfl : Try.prog.underlying 94 = some (.pointer 28)), (by kernel_rfl : Try.prog.underlying 99 = some (.slice 5)), ⟨_, _, _, rfl⟩, ⟨_, _, _, rfl⟩, ⟨_, _, _, rfl⟩, ⟨_, _, _, rfl⟩, ⟨_, _, _, rfl⟩, ⟨Try.prog.fieldsOf 120, by kernel_rfl, by kernel_rfl⟩, (by kernel_rfl : Try.prog.underlying 121 = some (.pointer 89)), (by kernel_rfl : Try.prog.underlying 123 = some (.pointer 2)), (by kernel_rfl : Try.prog.underlying 125 = some (.slice 21)), trivial⟩
theorem TTinf : ∀ t, tt.ok t = true → InfoOk Try.prog tt t := infT liveOk ⟨.at Try.t2 (by kernel_rfl), .at Try.t3 (by kernel_rfl), .at Try.t4 (by kernel_rfl), .at Try.t5 (by kernel_rfl), .at Try.t9 (by kernel_rfl), .at Try.t21 (by kernel_rfl), .at Try.t22 (by kernel_rfl), .at Try.t24 (by kernel_rfl), .at Try.t28 (by kernel_rfl), .at Try.t33 (by kernel_rfl), .at Try.t38 (by kernel_rfl), .at Try.t39 (by kernel_rfl), .at Try.t40 (by kernel_rfl), .at Try.t42 (by kernel_rfl), .at Try.t43 (by kernel_rfl), .at Try.t45 (by kernel_rfl), .at Try.t47 (by kernel_rfl), .at Try.t49 (by kernel_rfl), .at Try.t77 (by kernel_rfl), .at Try.t78 (by kernel_rfl), .at Try.t81 (by kernel_rfl), .at Try.t83 (by kernel_rfl), .at Try.t86 (by kernel_rfl), .at Try.t87 (by kernel_rfl), .at Try.t89 (by kernel_rfl), .at Try.t91 (by kernel_rfl), .at Try.t94 (by kernel_rfl), .at Try.t99 (by kernel_rfl), .at Try.t106 (by kernel_rfl), .at Try.t108 (by kernel_rfl), .at Try.t110 (by kernel_rfl), .at Try.t112 (by kernel_rfl), .at Try.t114 (by kernel_rfl), .at Try.t120 (by kernel_rfl), .at Try.t121 (by kernel_rfl), .at Try.t123 (by kernel_rfl), .at Try.t125 (by kernel_rfl), trivial⟩
theorem TTeq : ∀ t, (tt.at t).eq = true → EqFlat Try.prog tt t := eqT liveOk ⟨(nofun), (nofun), (nofun), (nofun), (nofun), (nofun), (nofun), (nofun), fun _ => .of (by kernel_rfl) (by kernel_rfl) (by kernel_rfl) (by kernel_rfl), (nofun), (nofun), (nofun), (nofun), (nofun), (nofun), fun _ => .of (by kernel_rfl) (by kernel_rfl) (by kernel_rfl) (by kernel_rfl), fun _ => .of (by kernel_rfl) (by kernel_rfl) (by kernel_rfl) (by kernel_rfl), (nofun), (nofun), (nofun), fun _ => .of (by kernel_rfl) (by kernel_rfl) (by kernel_rfl) (by kernel_rfl), (nofun), (nofun), (nofun), (nofun), (nofun), (nofun), (nofun), (nofun), (nofun), (nofun), (nofun), (nofun), (nofun), (nofun), (nofun), (nofun), trivial⟩
theorem TTeqs : ∀ t, ∀ (w : World) (h : Heap) (c : Cfg) (cs ds : List V) (xs ys : Array Value) (b : Bool), eqOk (tt.at t) cs ds = true → RepL w h c cs xs.toList → RepL w h c ds ys.toList →
    eqCells cs ds = some b → Try.prog.eqGuardType Try.prog.depth t = false ∧ (Op.equalIn 10000 t (.agg xs) (.agg ys)).run Try.prog w = .ok b w :=
  fun t _ _ _ _ _ _ _ _ hk rx ry hb => eqs_flat (TTeq t (eqOk_eq hk)) hk rx ry hb
theorem TT : TOK Try.prog tt := ⟨TTund, fun t h => (TTinf t h).spec, TTeqs, u8s_of (by kernel_rfl), blds_of (by kernel_rfl), fun t h => (TTinf t h).one⟩
theorem mixed : Try.prog.follows .mixedOrders = true := by kernel_rfl
end Go.Proofs.Ytcocpfgemdkkfaa

namespace Go.Yard
open Go.RowKit
section
variable {P : Program} {tt : TTab} {w w' : World} {h h' : Heap} {c c' : Cfg} {R : Type}
theorem fit_any (wf : WF w h c) {i id : Nat} {T : Ty} {l l2 : List T.den} (hi : h.at i = .row T l) (hid : id < h.length) (hf : h.at id = .free) {b : Nat} (hb : c.blk i = some b)
    {arr cur' : Array Value} {el : TypeId} {fz : Nat × Nat} (harr : w.heap[b]? = some (.cells arr el fz)) (hw : Wrote w w' b cur' el fz) {cap : Nat} (hcap : l2.length ≤ cap) (hmx : cap ≤ mx) (hsz : c.off i + cap * T.sz ≤ arr.size)
    {us : List Value} (ru : RepL w h c (cellsL T l2) us) (hcs : cur'.size = arr.size) (hcells : ∀ (k : Nat) (d : Value), us[k]? = some d → cur'[c.off i + k]? = some d) :
    ∃ c', WF w' ((h.set i .dead).set id (.row T l2)) c' ∧ Ext w h c w' ((h.set i .dead).set id (.row T l2)) c' ∧
      Rep w' ((h.set i .dead).set id (.row T l2)) c' (.row id l2.length) (.slice (some ⟨b, c.off i, none⟩) l2.length cap) := by
  have hne : i ≠ id := by rintro rfl; rw [hi] at hf; cases hf
  have hil := Heap.at_live hi (by simp)
  have hmul : l2.length * T.sz ≤ cap * T.sz := Nat.mul_le_mul_right _ hcap
  have hat : ∀ j, Heap.at ((h.set i .dead).set id (.row T l2)) j = if id = j then .row T l2 else if i = j then .dead else h.at j := by
    intro j
    rw [at_set, at_set]
    by_cases h1 : id = j
    · simp [h1]; intro h2; subst h1; omega
    · simp only [h1, false_and, if_false]
      by_cases h2 : i = j
      · subst h2; simp [hil]
      · simp [h2]
  have hc' : ∀ j, j ≠ id → (c.put id (some b) (c.off i)).blk j = c.blk j ∧ (c.put id (some b) (c.off i)).off j = c.off j := fun j hj => ⟨put_blk_ne _ _ hj, put_off_ne _ _ hj⟩
  have hoth : ∀ j, j ≠ i → (h.at j).live → c.blk j ≠ some b := fun j hj hl hbj => hj (wf.inj j i b hl (by rw [hi]; trivial) hbj hb)
  have hown : ∀ y, Owns h c b y := fun y => ⟨i, 0, hb, by rw [hi]; rfl, Nat.zero_le _⟩
  have howns : ∀ b' x, Owns ((h.set i .dead).set id (.row T l2)) (c.put id (some b) (c.off i)) b' x → Owns h c b' x := by
    rintro b' x ⟨j, f, g1, g2, g3⟩
    rw [hat] at g2
    by_cases h1 : id = j
    · subst h1
      rw [put_blk_eq] at g1
      cases g1
      exact hown x
    · rw [if_neg h1] at g2
      split at g2
      · simp [AObj.from_] at g2
      · obtain ⟨e1, e2⟩ := hc' j (Ne.symm h1)
        rw [e1] at g1; rw [e2] at g2
        exact ⟨j, f, g1, g2, g3⟩
  have x : Ext w h c w' ((h.set i .dead).set id (.row T l2)) (c.put id (some b) (c.off i)) := by
    constructor
    · exact hw.os
    · exact hw.tape
    · exact hw.output
    · rw [hw.size]; exact Nat.le_refl _
    · intro j hj
      refine ⟨by simpa using hj.1, ?_⟩
      rw [hat]
      split
      · simp
      · split
        · simp
        · exact hj.2
    · intro j hj hd
      have hjid : id ≠ j := by rintro rfl; exact hj.2 hf
      rw [hat, if_neg hjid] at hd ⊢
      split
      · rename_i h2; rw [if_pos h2] at hd; exact absurd rfl hd
      · rename_i h2
        rw [if_neg h2] at hd
        refine ⟨?_, (hc' j (Ne.symm hjid)).1, (hc' j (Ne.symm hjid)).2⟩
        have h3 := hj.2
        revert hd h3
        cases h.at j <;> simp [AObj.sim]
    · intro b' y hy ho
      have hbb : b' ≠ b := by rintro rfl; exact ho (hown y)
      exact blocks_cell (hw.other b' hbb)
    · intro b' hb' ho
      have hbb : b' ≠ b := by rintro rfl; exact ho 0 (hown 0)
      exact hw.other b' hbb
    · intro b' y _ ho; exact howns b' y ho
    · rfl
    · intro b' arr' e' fz' ha
      by_cases hbb : b' = b
      · subst hbb
        rw [harr] at ha; cases ha
        exact ⟨cur', fz, hw.here, hcs⟩
      · exact ⟨arr', fz', by rw [hw.other b' hbb]; exact ha, rfl⟩
  obtain ⟨fl, fh⟩ := fz
  have hti := wf.obj i hil
  rw [hi] at hti
  have hfz : ∀ y, (y < arr.size ∨ T.isMail = true) → w.frozen? ⟨b, y, none⟩ = false := by
    rcases hti with ⟨h0, _⟩ | ⟨b', arr', e', fz', p1, p2, p3, p4, p5⟩
    · rw [hb] at h0; cases h0
    · rw [hb] at p1; cases p1
      rw [harr] at p2; cases p2
      exact p4
  have rr := ru.mono x
  have wf' : WF w' ((h.set i .dead).set id (.row T l2)) (c.put id (some b) (c.off i)) := by
    constructor
    · intro b' y ho; exact wf.disj b' y (howns b' y ho)
    · intro b' y he; rw [hw.size]; exact wf.extlt b' y he
    · intro j hj
      rw [hat]
      by_cases h1 : id = j
      · subst h1
        rw [if_pos rfl]
        refine .inr ⟨b, cur', el, (fl, fh), put_blk_eq _ _ _, hw.here, by rw [put_off_eq]; omega, fun y h1 => ?_, ?_⟩
        · have := hfz y (h1.imp (fun h => by omega) fun h => h)
          rw [frozen_of harr] at this
          rw [frozen_of hw.here]; exact this
        · rw [put_off_eq]; exact row_of_cells rr hcells
      · rw [if_neg h1]
        split
        · trivial
        · rename_i h2
          by_cases hl : (h.at j).live
          · refine (wf.obj j (by simpa using hj)).keep x (fun b' hb' => hw.other b' ?_) (hc' j (Ne.symm h1)).1 (hc' j (Ne.symm h1)).2
            rintro rfl
            exact hoth j (Ne.symm h2) hl hb'
          · revert hl; cases h.at j <;> simp [AObj.live, ObjOK]
    · intro j k b' hj hk h1 h2
      rw [hat] at hj hk
      by_cases e1 : id = j <;> by_cases e2 : id = k
      · exact e1.symm.trans e2
      · subst e1
        rw [put_blk_eq] at h1; cases h1
        rw [if_neg e2] at hk
        rw [(hc' k (Ne.symm e2)).1] at h2
        split at hk
        · exact hk.elim
        · rename_i h3; exact absurd h2 (hoth k (Ne.symm h3) hk)
      · subst e2
        rw [put_blk_eq] at h2; cases h2
        rw [if_neg e1] at hj
        rw [(hc' j (Ne.symm e1)).1] at h1
        split at hj
        · exact hj.elim
        · rename_i h3; exact absurd h1 (hoth j (Ne.symm h3) hj)
      · rw [if_neg e1] at hj
        rw [if_neg e2] at hk
        rw [(hc' j (Ne.symm e1)).1] at h1
        rw [(hc' k (Ne.symm e2)).1] at h2
        split at hj
        · exact hj.elim
        · split at hk
          · exact hk.elim
          · exact wf.inj j k b' hj hk h1 h2
    · exact wf.lay_ext x
  refine ⟨_, wf', x, .row ⟨by simpa using hid, by rw [hat, if_pos rfl]; simp⟩ (by omega) ⟨_, _, rfl, ⟨hcap, hmx, fun _ => ⟨_, rfl⟩⟩, fun T' l' he => ?_⟩⟩
  rw [hat, if_pos rfl] at he
  cases he
  exact ⟨rfl, hcap, hmx, .inr ⟨b, cur', el, (fl, fh), put_blk_eq _ _ _, by rw [put_off_eq], hw.here, by rw [put_off_eq, hcs]; exact hsz⟩⟩

end

section
variable {P : Program} {tt : TTab} {w w' : World} {h h' : Heap} {c c' : Cfg} {R : Type}

theorem callsTo_of {g : Nat} {fn : Func} (hf : P.funcs[g]? = some fn) (hn : (fn.name == "runtime.NumGoroutine") = false) (hb : fn.body.isNone = false) {args : Array Value} {Q : Value → World → Prop}
    (h : Calls P g args w fun e w' => ∃ d, e = .returned d ∧ Q d w') : CallsTo P g args w Q := by
  refine ⟨.enter g args, w, ?_, h⟩
  have hn' : fn.name ≠ "runtime.NumGoroutine" := by simpa using hn
  have hb' : fn.body ≠ none := fun e => by rw [e] at hb; cases hb
  simp [callFunc, hf, hn', hb']

theorem repL3 {u v x : V} {args : Array Value} (ra : RepL w h c [u, v, x] args.toList) : ∃ d e f, args = #[d, e, f] ∧ Rep w h c u d ∧ Rep w h c v e ∧ Rep w h c x f := by
  obtain ⟨l⟩ := args
  match l, ra with
  | [d, e, f], ra => exact ⟨d, e, f, rfl, ra.head, ra.tail.head, ra.tail.tail.head⟩
  | [], ra => have := ra.1; simp at this
  | [_], ra => have := ra.1; simp at this
  | [_, _], ra => have := ra.1; simp at this
  | _ :: _ :: _ :: _ :: _, ra => have := ra.1; simp at this
end
section
variable {P : Program} {tt : TTab} {w w' : World} {h h' : Heap} {c c' : Cfg} {R : Type}

theorem wrote_set (b : Nat) (e : TypeId) (fz : Nat × Nat) : ∀ (vs : List Value) (o : Nat) (cur : Array Value) (w : World), w.heap[b]? = some (.cells cur e fz) → o + vs.length ≤ cur.size →
    ∃ cur' : Array Value, Wrote w (w.setCells b o vs) b cur' e fz ∧ cur'.toList = cur.toList.take o ++ vs ++ cur.toList.drop (o + vs.length)
  | [], o, cur, w, hb, _ => ⟨cur, ⟨rfl, rfl, rfl, rfl, fun _ _ => rfl, hb⟩, by simp⟩
  | v :: vs, o, cur, w, hb, hs => by
    simp only [List.length_cons] at hs
    have hb' : (w.setCell ⟨b, o, none⟩ v).heap[b]? = some (.cells (cur.setIfInBounds o v) e fz) := by
      simp [World.setCell, Array.getElem?_modify, hb]
    obtain ⟨cur', g2, g3⟩ := wrote_set b e fz vs (o + 1) (cur.setIfInBounds o v) (w.setCell ⟨b, o, none⟩ v) hb' (by simp; omega)
    refine ⟨cur', ⟨g2.os, g2.tape, g2.output, by rw [show w.setCells b o (v :: vs) = (w.setCell ⟨b, o, none⟩ v).setCells b (o + 1) vs from rfl, g2.size]; simp, fun k hk => ?_, g2.here⟩, ?_⟩
    · rw [show w.setCells b o (v :: vs) = (w.setCell ⟨b, o, none⟩ v).setCells b (o + 1) vs from rfl, g2.other k hk]; exact heap_setCell_other w _ k v hk
    · rw [g3]
      have := setAll [v] 0 o cur (by simp; omega)
      simp only [List.zipIdx_cons, List.zipIdx_nil, List.foldl_cons, List.foldl_nil, Nat.add_zero, List.length_singleton] at this
      rw [this]
      have l1 : (cur.toList.take o ++ [v]).length = o + 1 := by simp; omega
      rw [List.take_append_of_le_length (by omega), List.take_of_length_le (by omega)]
      have e2 : o + 1 + vs.length = (cur.toList.take o ++ [v]).length + vs.length := by omega
      rw [e2, List.drop_append]
      have e3 : (cur.toList.take o ++ [v]).length + vs.length - (cur.toList.take o ++ [v]).length = vs.length := by omega
      rw [e3, List.drop_eq_nil_of_le (by omega), List.nil_append, List.drop_drop]
      simp only [List.append_assoc, List.length_cons, List.cons_append]
      rw [List.nil_append, show o + 1 + vs.length = o + (vs.length + 1) from by omega]
theorem Wrote.trans {b : Nat} {cur cur' : Array Value} {e : TypeId} {fz : Nat × Nat} {w1 w2 : World} (g : Wrote w w1 b cur e fz) (g' : Wrote w1 w2 b cur' e fz) : Wrote w w2 b cur' e fz :=
  ⟨g'.os.trans g.os, g'.tape.trans g.tape, g'.output.trans g.output, g'.size.trans g.size, fun k hk => (g'.other k hk).trans (g.other k hk), g'.here⟩

theorem row_slice (wf : WF w h c) {i n : Nat} {T : Ty} {l : List T.den} (hi : h.at i = .row T l) (hne : l ≠ []) {v : Value} (r : Rep w h c (.row i n) v) :
    ∃ b arr e fz cap ds, v = .slice (some ⟨b, c.off i, none⟩) n cap ∧ n = l.length ∧ n ≤ cap ∧ cap ≤ mx ∧ c.blk i = some b ∧ w.heap[b]? = some (.cells arr e fz) ∧ c.off i + cap * T.sz ≤ arr.size ∧
      (∀ x, (x < arr.size ∨ T.isMail = true) → w.frozen? ⟨b, x, none⟩ = false) ∧ RepL w h c (cellsL T l) ds ∧ CellsAt w b (c.off i) ds := by
  have hil := Heap.at_live hi (by simp)
  obtain ⟨ds, hd, hcell⟩ := row_all wf hi
  obtain ⟨b0, hb0, hc0⟩ := hcell hne
  cases r with
  | row hu hn hv =>
    obtain ⟨A, cap, rfl, hA, hq⟩ := hv
    obtain ⟨q1, q2, q3, q4⟩ := hq T l hi
    rcases q4 with ⟨g, _⟩ | ⟨b, arr, e, fz, g1, g2, g3, g4⟩
    · rw [hb0] at g; cases g
    · rw [hb0] at g1; cases g1
      have ho := wf.obj i hil
      rw [hi] at ho
      rcases ho with ⟨g, _⟩ | ⟨b', arr', e', fz', p1, p2, p3, p4, p5⟩
      · rw [hb0] at g; cases g
      · rw [hb0] at p1; cases p1
        rw [g3] at p2; cases p2
        exact ⟨b0, arr, e, fz, cap, ds, by rw [g2], q1, q2, q3, hb0, g3, g4, p4, hd, hc0⟩

def delete_S (R : Type) : Spec R := fun vs h k =>
  match vs with
  | [.row i n, .int .i64 a, .int .i64 b] =>
    (match h.at i with
     | .row .mail l => chk (decide (0 ≤ a) && decide (a < b) && decide (b ≤ (l.length : Int)) && decide (n = l.length)) (k (.row h.length (l.take a.toNat ++ l.drop b.toNat).length) ((h.set i .dead) ++ [.row .mail (l.take a.toNat ++ l.drop b.toNat)]))
     | _ => none)
  | _ => none

def zeroMail : Ty.den .mail := (⟨[], [], false⟩ : Mail)

def deleteV_S (R : Type) : Spec R := fun vs h k =>
  match vs with
  | [.row i n, .int .i64 a, .int .i64 b] =>
    (match h.at i with
     | .row .mail l => chk (decide (0 ≤ a) && decide (a < b) && decide (b ≤ (l.length : Int)) && decide (n = l.length)) (k (.rview i 3 0 (l.take a.toNat ++ l.drop b.toNat).length) (h.set i (.row .mail (l.take a.toNat ++ l.drop b.toNat ++ List.replicate (b.toNat - a.toNat) zeroMail))))
     | _ => none)
  | _ => none

def insertV_S (R : Type) : Spec R := fun vs h k =>
  match vs with
  | [.rview i z q m, .int .i64 a, .row j p] =>
    (match h.at i, h.at j with
     | .row .mail l, .row .mail [x] => chk (decide (z = 3) && decide (q = 0) && decide (p = 1) && decide (i ≠ j) && decide (0 ≤ a) && decide (a ≤ (m : Int)) && decide (m + 1 = l.length))
         (k (.row h.length ((l.take a.toNat ++ x :: (l.take m).drop a.toNat).length)) ((h.set i .dead) ++ [.row .mail (l.take a.toNat ++ x :: (l.take m).drop a.toNat)]))
     | _, _ => none)
  | _ => none

theorem cellsL_rep (T : Ty) (x : T.den) : ∀ n, cellsL T (List.replicate n x) = (List.replicate n (T.cells x)).flatten
  | 0 => rfl
  | n + 1 => by rw [List.replicate_succ, List.replicate_succ, List.flatten_cons]; simp only [cellsL]; rw [cellsL_rep T x n]

def DeleteWalk (P : Program) (g : Nat) : Prop := ∀ (w : World) (blk off n cap i j : Nat) (news : List Value), i < j → j ≤ n → n ≤ cap → cap ≤ mx → news.length = (n - j) * 3 → (∀ t u, news[t]? = some u → w.cell? ⟨blk, off + j * 3 + t, none⟩ = some u) →
  (∀ u ∈ news, u.oneCell' = true) → (∀ t, t < n * 3 → (w.cell? ⟨blk, off + t, none⟩).isSome = true ∧ w.frozen? ⟨blk, off + t, none⟩ = false) →
  ∃ zs : List Value, zs.length = (j - i) * 3 ∧ (∀ (w : World) (h : Heap) (c : Cfg), RepL w h c (cellsL .mail (List.replicate (j - i) zeroMail)) zs) ∧ Calls P g #[.slice (some ⟨blk, off, none⟩) n cap, .int .i64 (i : Int), .int .i64 (j : Int)] w fun e w' => e = .returned (.slice (some ⟨blk, off, none⟩) (n - (j - i)) cap) ∧ w' = (w.drew.setCells blk (off + i * 3) news).setCells blk (off + (i + (n - j)) * 3) zs

theorem rep_ones {cs : List V} {ds : List Value} (r : RepL w h c cs ds) (h1 : cs.all V.one = true) : ∀ u ∈ ds, u.oneCell' = true := fun u hu => by
  obtain ⟨j, hj, rfl⟩ := List.getElem_of_mem hu
  have hj2 : j < cs.length := by rw [r.1]; exact hj
  exact (one_cell (r.2 j cs[j] ds[j] (List.getElem?_eq_getElem hj2) (List.getElem?_eq_getElem hj)) (List.all_eq_true.1 h1 _ (List.getElem_mem hj2))).1
theorem set_dead_push {h : Heap} {i : Nat} (hi : i < h.length) (ob : AObj) : ((h ++ List.replicate 1 AObj.free).set i .dead).set h.length ob = h.set i .dead ++ [ob] := by
  rw [List.set_append_left _ _ hi, List.set_append_right _ _ (by simp)]
  simp
theorem delete_core {g : Nat} (walk : DeleteWalk P g) (wf : WF w h c) {i n : Nat} {l : List (Ty.den .mail)} (hi : h.at i = .row .mail l) {d1 : Value} (r1 : Rep w h c (.row i n) d1) {x y : Nat} (hxy : x < y) (hyl : y ≤ l.length) (hnl : n = l.length) :
    ∃ blk arr e fz cap ds zs cur2 w', d1 = .slice (some ⟨blk, c.off i, none⟩) n cap ∧ n ≤ cap ∧ cap ≤ mx ∧ c.blk i = some blk ∧ w.heap[blk]? = some (.cells arr e fz) ∧ c.off i + cap * 3 ≤ arr.size ∧
      (∀ x, w.frozen? ⟨blk, x, none⟩ = false) ∧ RepL w h c (cellsL .mail l) ds ∧ ds.length = n * 3 ∧ zs.length = (y - x) * 3 ∧ (∀ (w : World) (h : Heap) (c : Cfg), RepL w h c (cellsL .mail (List.replicate (y - x) zeroMail)) zs) ∧
      Wrote w w' blk cur2 e fz ∧ cur2.size = arr.size ∧ (∀ t d, (ds.take (x * 3) ++ ds.drop (y * 3) ++ zs)[t]? = some d → cur2[c.off i + t]? = some d) ∧
      Calls P g #[d1, .int .i64 (x : Int), .int .i64 (y : Int)] w fun e' w'' => e' = .returned (.slice (some ⟨blk, c.off i, none⟩) (n - (y - x)) cap) ∧ w'' = w' := by
  have hne : l ≠ [] := by rintro rfl; simp at hyl; omega
  have hil := Heap.at_live hi (by simp)
  obtain ⟨blk, arr, e, fz, cap, ds, rfl, hn1, hcap, hmx, hblk, harr, hsz, hfz0, hds, hcells⟩ := row_slice wf hi hne r1
  have hfz : ∀ x, w.frozen? ⟨blk, x, none⟩ = false := fun x => hfz0 x (.inr rfl)
  have hsz3 : Ty.sz .mail = 3 := rfl
  rw [hsz3] at hsz
  have hdl : ds.length = n * 3 := by rw [← hds.1, cellsL_len, hn1, hsz3]
  have hyn : y ≤ n := by omega
  have hones := rep_ones hds (cellsL_one _ _)
  have hat : ∀ t, c.off i + t < arr.size → w.cell? ⟨blk, c.off i + t, none⟩ = some (arr[c.off i + t]!) := fun t ht => by
    rw [cell_of_row w blk _ arr e fz harr, Array.getElem?_eq_getElem ht, getElem!_pos arr _ ht]
  obtain ⟨zs, hzs, hzr, hcalls⟩ := walk w blk (c.off i) n cap x y (ds.drop (y * 3)) hxy hyn hcap hmx (by rw [List.length_drop, hdl]; omega)
    (fun t u hu => by rw [List.getElem?_drop] at hu; rw [Nat.add_assoc]; exact hcells _ _ hu) (fun u hu => hones u (List.mem_of_mem_drop hu))
    (fun t ht => ⟨by rw [hat t (by omega)]; rfl, hfz _⟩)
  have hdd : (ds.drop (y * 3)).length = (n - y) * 3 := by rw [List.length_drop, hdl]; omega
  obtain ⟨cur1, W1, q1⟩ := wrote_set blk e fz (ds.drop (y * 3)) (c.off i + x * 3) arr w.drew harr (by rw [hdd]; omega)
  have s1 : cur1.size = arr.size := by
    rw [← Array.length_toList, q1]; simp only [List.length_append, List.length_take, List.length_drop, Array.length_toList]; omega
  obtain ⟨cur2, W2, q2⟩ := wrote_set blk e fz zs (c.off i + (x + (n - y)) * 3) cur1 _ W1.here (by rw [hzs, s1]; omega)
  have s2 : cur2.size = arr.size := by
    rw [← Array.length_toList, q2]; simp only [List.length_append, List.length_take, List.length_drop, Array.length_toList]; omega
  have WW := W1.trans W2
  have W : Wrote w ((w.drew.setCells blk (c.off i + x * 3) (ds.drop (y * 3))).setCells blk (c.off i + (x + (n - y)) * 3) zs) blk cur2 e fz := ⟨WW.os, WW.tape, WW.output, WW.size, WW.other, WW.here⟩
  refine ⟨blk, arr, e, fz, cap, ds, zs, cur2, _, rfl, hcap, hmx, hblk, harr, hsz, hfz, hds, hdl, hzs, hzr, W, s2, fun t d hd => ?_, hcalls⟩
  have hcell : ∀ q v, ds[q]? = some v → arr[c.off i + q]? = some v := fun q v hq => by
    have := hcells q v hq
    rwa [cell_of_row w blk _ arr e fz harr] at this
  have l2 : (ds.take (x * 3)).length = x * 3 := by rw [List.length_take, hdl]; omega
  have l3 : (ds.take (x * 3) ++ ds.drop (y * 3)).length = (x + (n - y)) * 3 := by rw [List.length_append, l2, hdd, Nat.add_mul]
  rw [← Array.getElem?_toList, q2]
  have l4 : (cur1.toList.take (c.off i + (x + (n - y)) * 3)).length = c.off i + (x + (n - y)) * 3 := by simp only [List.length_take, Array.length_toList]; omega
  by_cases htl : t < (x + (n - y)) * 3
  · rw [List.getElem?_append_left (by rw [l3]; exact htl)] at hd
    rw [List.append_assoc, List.getElem?_append_left (by rw [l4]; omega), List.getElem?_take, if_pos (by omega), q1, List.append_assoc]
    have l1 : (arr.toList.take (c.off i + x * 3)).length = c.off i + x * 3 := by simp only [List.length_take, Array.length_toList]; omega
    by_cases ht : t < x * 3
    · rw [List.getElem?_append_left (by rw [l2]; exact ht), List.getElem?_take, if_pos ht] at hd
      rw [List.getElem?_append_left (by rw [l1]; omega), List.getElem?_take, if_pos (by omega), Array.getElem?_toList]
      exact hcell _ _ hd
    · rw [List.getElem?_append_right (by rw [l2]; omega), l2] at hd
      rw [List.getElem?_append_right (by rw [l1]; omega), l1, List.getElem?_append_left (by rw [hdd]; omega), ← hd]
      congr 1
      omega
  · rw [List.getElem?_append_right (by rw [l3]; omega), l3] at hd
    have hzl := (List.getElem?_eq_some_iff.1 hd).1
    rw [List.append_assoc, List.getElem?_append_right (by rw [l4]; omega), l4, List.getElem?_append_left (by omega), ← hd]
    congr 1
    omega
theorem delete_ok {g : Nat} {fn : Func} (hf : P.funcs[g]? = some fn) (hn : (fn.name == "runtime.NumGoroutine") = false) (hb : fn.body.isNone = false) (walk : DeleteWalk P g) : Spec.Ok P g (delete_S R) := by
  intro vs h k r hk w c args wf ra
  unfold delete_S at hk
  split at hk <;> try (first | cases hk)
  rename_i i n a b
  split at hk <;> try (first | cases hk)
  rename_i l hi
  obtain ⟨hc, hk⟩ := chk_some hk
  simp only [Bool.and_eq_true, decide_eq_true_eq] at hc
  obtain ⟨⟨⟨c1, c2⟩, c3⟩, c4⟩ := hc
  obtain ⟨d1, d2, d3, rfl, r1, r2, r3⟩ := repL3 ra
  obtain ⟨x, rfl⟩ : ∃ x : Nat, a = (x : Int) := ⟨a.toNat, by omega⟩
  obtain ⟨y, rfl⟩ : ∃ y : Nat, b = (y : Int) := ⟨b.toNat, by omega⟩
  have e2 := r2.int_inv.1
  have e3 := r3.int_inv.1
  subst e2
  subst e3
  have hil := Heap.at_live hi (by simp)
  have hsz3 : Ty.sz .mail = 3 := rfl
  simp only [Int.toNat_natCast] at hk
  obtain ⟨blk, arr, e, fz, cap, ds, zs, cur2, w', rfl, hcap, hmx, hblk, harr, hsz, hfz, hds, hdl, hzs, hzr, W, s2, hcell, hcalls⟩ := delete_core walk wf hi r1 (x := x) (y := y) (by omega) (by omega) c4
  refine callsTo_of hf hn hb (Calls.mono hcalls ?_)
  rintro e' w'' ⟨rfl, rfl⟩
  refine ⟨_, rfl, ?_⟩
  have wf0 : WF w (h ++ List.replicate 1 AObj.free) c := slots_wf wf 1
  have hi0 : Heap.at (h ++ List.replicate 1 AObj.free) i = .row .mail l := by rw [at_append_left hil]; exact hi
  have hf0 : Heap.at (h ++ List.replicate 1 AObj.free) h.length = .free := by rw [at_append_right (Nat.le_refl _)]; simp [Heap.at]
  have hll : (l.take x ++ l.drop y).length = n - (y - x) := by rw [List.length_append, List.length_take, List.length_drop]; omega
  have ru : RepL w (h ++ List.replicate 1 AObj.free) c (cellsL .mail (l.take x ++ l.drop y)) (ds.take (x * 3) ++ ds.drop (y * 3)) := by
    rw [cellsL_append, cellsL_take, cellsL_drop, hsz3]
    exact ((repL_take hds _).append (repL_drop hds _)).mono (slots_ext 1)
  obtain ⟨c', k1, k2, k3⟩ := fit_any wf0 hi0 (by simp) hf0 hblk harr W (cap := cap) (l2 := l.take x ++ l.drop y) (by rw [hll]; omega) hmx (by rw [hsz3]; exact hsz) ru s2 (fun t d hd => hcell t d (by
    rw [List.getElem?_append_left (List.getElem?_eq_some_iff.1 hd).1]; exact hd))
  rw [set_dead_push hil] at k1 k2 k3
  rw [hll] at k3 hk
  exact ⟨_, _, c', k1, (slots_ext 1).trans k2, k3, hk⟩
theorem deleteV_ok {g : Nat} {fn : Func} (hf : P.funcs[g]? = some fn) (hn : (fn.name == "runtime.NumGoroutine") = false) (hb : fn.body.isNone = false) (walk : DeleteWalk P g) : Spec.Ok P g (deleteV_S R) := by
  intro vs h k r hk w c args wf ra
  unfold deleteV_S at hk
  split at hk <;> try (first | cases hk)
  rename_i i n a b
  split at hk <;> try (first | cases hk)
  rename_i l hi
  obtain ⟨hc, hk⟩ := chk_some hk
  simp only [Bool.and_eq_true, decide_eq_true_eq] at hc
  obtain ⟨⟨⟨c1, c2⟩, c3⟩, c4⟩ := hc
  obtain ⟨d1, d2, d3, rfl, r1, r2, r3⟩ := repL3 ra
  obtain ⟨x, rfl⟩ : ∃ x : Nat, a = (x : Int) := ⟨a.toNat, by omega⟩
  obtain ⟨y, rfl⟩ : ∃ y : Nat, b = (y : Int) := ⟨b.toNat, by omega⟩
  have e2 := r2.int_inv.1
  have e3 := r3.int_inv.1
  subst e2
  subst e3
  have hil := Heap.at_live hi (by simp)
  have hsz3 : Ty.sz .mail = 3 := rfl
  simp only [Int.toNat_natCast] at hk
  obtain ⟨blk, arr, e, fz, cap, ds, zs, cur2, w', rfl, hcap, hmx, hblk, harr, hsz, hfz, hds, hdl, hzs, hzr, W, s2, hcell, hcalls⟩ := delete_core walk wf hi r1 (x := x) (y := y) (by omega) (by omega) c4
  refine callsTo_of hf hn hb (Calls.mono hcalls ?_)
  rintro e' w'' ⟨rfl, rfl⟩
  refine ⟨_, rfl, ?_⟩
  have hll : (l.take x ++ l.drop y).length = n - (y - x) := by rw [List.length_append, List.length_take, List.length_drop]; omega
  obtain ⟨l2, hl2⟩ : ∃ l2, l2 = l.take x ++ l.drop y ++ List.replicate (y - x) zeroMail := ⟨_, rfl⟩
  have hl2n : l2.length = n := by rw [hl2, List.length_append, hll, List.length_replicate]; omega
  have hsim : (h.at i).sim (.row .mail l2) := by rw [hi]; exact ⟨rfl, by rw [hl2n, c4]⟩
  have hfrom : (h.at i).from_ (c.off i) = some 0 := by rw [hi]; rfl
  have xx : Ext w h c w'' (h.set i (.row .mail l2)) c := upd_ext hblk harr W s2 hfrom rfl hsim
  have ru : RepL w h c (cellsL .mail l2) (ds.take (x * 3) ++ ds.drop (y * 3) ++ zs) := by
    rw [hl2, cellsL_append, cellsL_append, cellsL_take, cellsL_drop, hsz3]
    exact ((repL_take hds _).append (repL_drop hds _)).append (hzr w h c)
  have hob : ObjOK w'' (h.set i (.row .mail l2)) c i (.row .mail l2) := by
    refine .inr ⟨blk, cur2, e, fz, hblk, W.here, by rw [hl2n, hsz3, s2]; omega, fun q hq => ?_, row_of_cells (ru.mono xx) hcell⟩
    obtain ⟨fl, fh⟩ := fz
    have := hfz q
    rw [frozen_of harr] at this
    rw [frozen_of W.here]; exact this
  have wf' := upd_wf wf hblk harr W s2 hfrom rfl hsim hob
  rw [← hl2, hll] at hk
  refine ⟨_, _, c, wf', xx, ?_, hk⟩
  have hset : Heap.at (h.set i (AObj.row .mail l2)) i = AObj.row .mail l2 := at_set_eq _ hil
  refine .rview ⟨by simpa using hil, by rw [hset]; simp⟩ (by omega) ⟨_, cap, rfl, ⟨by omega, hmx, fun _ => ⟨_, rfl⟩⟩, fun T l' he hz hq => ?_⟩
  rw [hset] at he
  cases he
  refine ⟨by omega, fun _ => ⟨blk, cur2, e, fz, hblk, by simp, W.here, by rw [hsz3, s2]; omega⟩⟩
def InsertWalk (P : Program) (g : Nat) : Prop := ∀ (w : World) (b off n cap i vb voff vc : Nat) (cs vs : List Value) (arr varr : Array Value) (e e' : TypeId) (fz fz' : Nat × Nat), i ≤ n → n + 1 ≤ cap → cap ≤ mx → vb ≠ b → cs.length = n * 3 → vs.length = 3 →
  w.heap[b]? = some (.cells arr e fz) → w.heap[vb]? = some (.cells varr e' fz') → (∀ x, w.frozen? ⟨vb, x, none⟩ = false) →
  (∀ j v, cs[j]? = some v → w.cell? ⟨b, off + j, none⟩ = some v) → (∀ j, j < (n + 1) * 3 → (w.cell? ⟨b, off + j, none⟩).isSome = true) → (∀ j, j < (n + 1) * 3 → w.frozen? ⟨b, off + j, none⟩ = false) →
  (∀ j v, vs[j]? = some v → w.cell? ⟨vb, voff + j, none⟩ = some v) → (∀ v ∈ cs, v.oneCell' = true) → (∀ v ∈ vs, v.oneCell' = true) →
  ∃ w0, (w0 = w ∨ w0 = w.drew) ∧ Calls P g #[.slice (some ⟨b, off, none⟩) n cap, .int .i64 (i : Int), .slice (some ⟨vb, voff, none⟩) 1 vc] w fun e w' =>
    e = .returned (.slice (some ⟨b, off, none⟩) (n + 1) cap) ∧ w' = (w0.setCells b (off + (i + 1) * 3) (cs.drop (i * 3))).setCells b (off + i * 3) vs
theorem insertV_ok {g : Nat} {fn : Func} (hf : P.funcs[g]? = some fn) (hn : (fn.name == "runtime.NumGoroutine") = false) (hb : fn.body.isNone = false) (walk : InsertWalk P g) : Spec.Ok P g (insertV_S R) := by
  intro vs h k r hk w c args wf ra
  unfold insertV_S at hk
  split at hk <;> try (first | cases hk)
  rename_i i z q m a j p
  split at hk <;> try (first | cases hk)
  rename_i l x hi hj
  have hk0 := chk_some hk
  clear hk
  obtain ⟨hc, hk⟩ := hk0
  simp only [Bool.and_eq_true, decide_eq_true_eq] at hc
  obtain ⟨⟨⟨⟨⟨⟨rfl, rfl⟩, rfl⟩, c4⟩, c5⟩, c6⟩, c7⟩ := hc
  obtain ⟨d1, d2, d3, rfl, r1, r2, r3⟩ := repL3 ra
  obtain ⟨y, rfl⟩ : ∃ y : Nat, a = (y : Int) := ⟨a.toNat, by omega⟩
  have e2 := r2.int_inv.1
  subst e2
  have hil := Heap.at_live hi (by simp)
  have hsz3 : Ty.sz .mail = 3 := rfl
  simp only [Int.toNat_natCast] at hk
  obtain ⟨vb, varr, ve, vfz, vcap, vs, rfl, _, _, _, hvblk, hvarr, _, hvfz, hvs, hvcells⟩ := row_slice wf hj (by simp) r3
  have hvl : vs.length = 3 := by rw [← hvs.1, cellsL_len, hsz3]; rfl
  cases r1 with
  | rview hu hm hv =>
    obtain ⟨A, cap, rfl, ⟨hcap, hmx, _⟩, hv⟩ := hv
    obtain ⟨g1, g2⟩ := hv _ _ hi hsz3.symm (Nat.zero_le _)
    obtain ⟨b, arr, e, fz, hblk, rfl, harr, hsz⟩ := g2 (by omega)
    have hne : vb ≠ b := by
      rintro rfl
      exact c4 (wf.inj i j vb (by rw [hi]; trivial) (by rw [hj]; trivial) hblk hvblk)
    obtain ⟨ds, hds, hcells0⟩ := row_all wf hi
    obtain ⟨b0, hb0, hcells⟩ := hcells0 (by rintro rfl; simp at c7)
    rw [hblk] at hb0; cases hb0
    have hdl : ds.length = (m + 1) * 3 := by rw [← hds.1, cellsL_len, ← c7, hsz3]
    have hob := wf.obj i hil
    rw [hi] at hob
    rcases hob with ⟨g, _⟩ | ⟨b', arr', e', fz', p1, p2, p3, p4, p5⟩
    · rw [hblk] at g; cases g
    rw [hblk] at p1; cases p1
    rw [harr] at p2; cases p2
    rw [hsz3] at hsz
    simp only [Nat.zero_add, Nat.zero_mul, Nat.add_zero] at hsz ⊢
    have hym : y ≤ m := by omega
    have hcs : (ds.take (m * 3)).length = m * 3 := by rw [List.length_take, hdl]; omega
    have hones := rep_ones hds (cellsL_one _ _)
    obtain ⟨w0, hw0, hcalls⟩ := walk w b (c.off i) m cap y vb (c.off j) vcap (ds.take (m * 3)) vs arr varr e ve fz vfz hym (by omega) hmx hne hcs hvl harr hvarr (fun x => hvfz x (.inr rfl))
      (fun t v ht => by
        rw [List.getElem?_take] at ht
        split at ht
        · exact hcells t v ht
        · cases ht)
      (fun t ht => by rw [cell_of_row w b _ arr e fz harr, Array.getElem?_eq_getElem (by omega)]; rfl) (fun t ht => p4 _ (.inr rfl)) (fun t v ht => hvcells t v ht)
      (fun v hv => hones v (List.mem_of_mem_take hv)) (rep_ones hvs (cellsL_one _ _))
    refine callsTo_of hf hn hb (Calls.mono hcalls ?_)
    rintro e' w' ⟨rfl, rfl⟩
    refine ⟨_, rfl, ?_⟩
    have harr0 : w0.heap[b]? = some (.cells arr e fz) := by rcases hw0 with rfl | rfl <;> exact harr
    have hdd : ((ds.take (m * 3)).drop (y * 3)).length = (m - y) * 3 := by rw [List.length_drop, hcs]; omega
    obtain ⟨cur1, W1, q1⟩ := wrote_set b e fz ((ds.take (m * 3)).drop (y * 3)) (c.off i + (y + 1) * 3) arr w0 harr0 (by rw [hdd]; omega)
    have s1 : cur1.size = arr.size := by
      rw [← Array.length_toList, q1]; simp only [List.length_append, List.length_take, List.length_drop, Array.length_toList]; omega
    obtain ⟨cur2, W2, q2⟩ := wrote_set b e fz vs (c.off i + y * 3) cur1 _ W1.here (by rw [hvl, s1]; omega)
    have s2 : cur2.size = arr.size := by
      rw [← Array.length_toList, q2]; simp only [List.length_append, List.length_take, List.length_drop, Array.length_toList]; omega
    have WW := W1.trans W2
    have W : Wrote w ((w0.setCells b (c.off i + (y + 1) * 3) ((ds.take (m * 3)).drop (y * 3))).setCells b (c.off i + y * 3) vs) b cur2 e fz := by
      rcases hw0 with rfl | rfl
      · exact WW
      · exact ⟨WW.os, WW.tape, WW.output, WW.size, WW.other, WW.here⟩
    have wf0 : WF w (h ++ List.replicate 1 AObj.free) c := slots_wf wf 1
    have hi0 : Heap.at (h ++ List.replicate 1 AObj.free) i = .row .mail l := by rw [at_append_left hil]; exact hi
    have hf0 : Heap.at (h ++ List.replicate 1 AObj.free) h.length = .free := by rw [at_append_right (Nat.le_refl _)]; simp [Heap.at]
    have hll : (l.take y ++ x :: (l.take m).drop y).length = m + 1 := by simp only [List.length_append, List.length_take, List.length_drop, List.length_cons]; omega
    have ru : RepL w (h ++ List.replicate 1 AObj.free) c (cellsL .mail (l.take y ++ x :: (l.take m).drop y)) (ds.take (y * 3) ++ (vs ++ (ds.take (m * 3)).drop (y * 3))) := by
      rw [show l.take y ++ x :: (l.take m).drop y = l.take y ++ ([x] ++ (l.take m).drop y) from rfl, cellsL_append, cellsL_append, cellsL_drop, cellsL_take, cellsL_take, hsz3]
      exact ((repL_take hds _).append (hvs.append (repL_drop (repL_take hds _) _))).mono (slots_ext 1)
    obtain ⟨c', k1, k2, k3⟩ := fit_any wf0 hi0 (by simp) hf0 hblk harr W (cap := cap) (l2 := l.take y ++ x :: (l.take m).drop y) (by rw [hll]; omega) hmx (by rw [hsz3]; exact hsz) ru s2 (fun t d hd => by
      have hcell : ∀ q v, ds[q]? = some v → arr[c.off i + q]? = some v := fun q v hq => by
        have := hcells q v hq
        rwa [cell_of_row w b _ arr e fz harr] at this
      have l2 : (ds.take (y * 3)).length = y * 3 := by rw [List.length_take, hdl]; omega
      have l4 : (cur1.toList.take (c.off i + y * 3)).length = c.off i + y * 3 := by simp only [List.length_take, Array.length_toList]; omega
      have l1 : (arr.toList.take (c.off i + (y + 1) * 3)).length = c.off i + (y + 1) * 3 := by simp only [List.length_take, Array.length_toList]; omega
      rw [← Array.getElem?_toList, q2, List.append_assoc]
      by_cases ht : t < y * 3
      · rw [List.getElem?_append_left (by rw [l2]; exact ht), List.getElem?_take, if_pos ht] at hd
        rw [List.getElem?_append_left (by rw [l4]; omega), List.getElem?_take, if_pos (by omega), q1, List.append_assoc, List.getElem?_append_left (by rw [l1]; omega), List.getElem?_take, if_pos (by omega), Array.getElem?_toList]
        exact hcell _ _ hd
      · rw [List.getElem?_append_right (by rw [l2]; omega), l2] at hd
        rw [List.getElem?_append_right (by rw [l4]; omega), l4]
        by_cases ht2 : t < y * 3 + 3
        · rw [List.getElem?_append_left (by rw [hvl]; omega)] at hd
          rw [List.getElem?_append_left (by rw [hvl]; omega), ← hd]
          congr 1
          omega
        · rw [List.getElem?_append_right (by rw [hvl]; omega), hvl] at hd
          rw [List.getElem?_append_right (by rw [hvl]; omega), hvl, List.getElem?_drop, q1, List.append_assoc]
          have ht3 := (List.getElem?_eq_some_iff.1 hd).1
          rw [List.getElem?_append_right (by rw [l1]; omega), l1, List.getElem?_append_left (by omega), ← hd]
          congr 1
          omega)
    rw [set_dead_push hil] at k1 k2 k3
    rw [hll] at k3 hk
    exact ⟨_, _, c', k1, (slots_ext 1).trans k2, k3, hk⟩
end

section
variable {P : Program} {tt : TTab} {w w' : World} {h h' : Heap} {c c' : Cfg} {R : Type}

theorem ptr_place {i o : Nat} {cs : List V} {a' : Value} (wf : WF w h c) (ra : Rep w h c (.ptr i o) a') (hcs : h.at i = .cells cs) :
    ∃ b arr e, a' = .pointer (some ⟨b, o, none⟩) ∧ c.blk i = some b ∧ w.heap[b]? = some (.cells arr e (0, 0)) ∧ RepL w h c cs arr.toList := by
  have hi := Heap.at_live hcs (by simp)
  have ho := wf.obj i hi
  rw [hcs] at ho
  obtain ⟨b, arr, e, g1, g2, g3⟩ := ho
  cases ra with
  | ptr hu hv =>
    obtain ⟨b', rfl, hb'⟩ := hv
    have := hb' (by rw [hcs]; simp)
    rw [g1] at this; cases this
    exact ⟨b, arr, e, rfl, g1, g2, g3⟩

theorem store_cell1 (wf : WF w h c) {i o b : Nat} {cs : List V} {arr : Array Value} {e : TypeId} (hcs : h.at i = .cells cs) (g1 : c.blk i = some b) (g2 : w.heap[b]? = some (.cells arr e (0, 0))) (g3 : RepL w h c cs arr.toList)
    (ho : o < cs.length) {v : V} {d : Value} (rv : Rep w h c v d) (h1 : d.oneCell' = true) (m : Mode) :
    (store ⟨b, o, none⟩ d m).run P w = .ok () (w.setCell ⟨b, o, none⟩ d) ∧ WF (w.setCell ⟨b, o, none⟩ d) (h.set i (.cells (splice cs o [v]))) c ∧ Ext w h c (w.setCell ⟨b, o, none⟩ d) (h.set i (.cells (splice cs o [v]))) c := by
  have hl := g3.1
  simp only [Array.length_toList] at hl
  have hlt : o < arr.size := by omega
  have hcell : w.cell? ⟨b, o, none⟩ = some arr[o] := by rw [cell_of_row w b _ arr e (0, 0) g2]; exact Array.getElem?_eq_getElem hlt
  have hfz : w.frozen? ⟨b, o, none⟩ = false := frozen_none g2 o
  have hrun : (store ⟨b, o, none⟩ d m).run P w = .ok () (w.setCell ⟨b, o, none⟩ d) := by
    rw [run_store P w _ d _ h1, hcell]
    simp [hfz]
  have hb' : (w.setCell ⟨b, o, none⟩ d).heap[b]? = some (.cells (arr.setIfInBounds o d) e (0, 0)) := by
    simp [World.setCell, Array.getElem?_modify, g2]
  have hw : Wrote w (w.setCell ⟨b, o, none⟩ d) b (arr.setIfInBounds o d) e (0, 0) := ⟨rfl, rfl, rfl, by simp, fun k hk => heap_setCell_other w _ k d hk, hb'⟩
  have hsz' : (arr.setIfInBounds o d).size = arr.size := by simp
  have hfrom : (h.at i).from_ (c.off i) = some 0 := by rw [hcs]; rfl
  have hlen : (splice cs o [v]).length = cs.length := splice_len (by simp; omega)
  have hsim : (h.at i).sim (.cells (splice cs o [v])) := by rw [hcs]; exact hlen.symm
  have x := upd_ext g1 g2 hw hsz' hfrom rfl hsim
  refine ⟨hrun, upd_wf wf g1 g2 hw hsz' hfrom rfl hsim ⟨b, _, e, g1, hb', ?_⟩, x⟩
  have e1 : (arr.setIfInBounds o d).toList = arr.toList.take o ++ [d] ++ arr.toList.drop (o + [d].length) := by
    rw [Array.toList_setIfInBounds, List.set_eq_take_append_cons_drop, if_pos (by simpa using hlt)]
    simp
  rw [e1]
  exact splice_rep (g3.mono x) (RepL.cons (rv.mono x) .nil) _

def store64_S (R : Type) : Spec R := fun vs h k =>
  match vs with
  | [.ptr i o, .int .i64 n] => (match h.at i with | .cells cs => if o < cs.length then k (.tuple []) (h.set i (.cells (splice cs o [.int .i64 n]))) else none | _ => none)
  | _ => none

def add64_S (R : Type) : Spec R := fun vs h k =>
  match vs with
  | [.ptr i o, .int .i64 d] =>
    (match h.at i with
     | .cells cs =>
       (match cs[o]? with
        | some (.int .i64 n) => k (.int .i64 (IntKind.i64.wrap (n + d))) (h.set i (.cells (splice cs o [.int .i64 (IntKind.i64.wrap (n + d))])))
        | _ => none)
     | _ => none)
  | _ => none

theorem store64_ok {g : Nat} {fn : Func} (hf : P.funcs[g]? = some fn) (hname : (fn.name == "runtime.NumGoroutine") = false) (hb : fn.body.isNone = true) (hn : Extern.findNext fn = none) (he : Extern.find fn = some Extern.Atomic.storeT) :
    Spec.Ok P g (store64_S R) := by
  intro vs h k r hk w c args wf ra
  unfold store64_S at hk
  split at hk <;> try (first | cases hk)
  rename_i i o n
  split at hk <;> try (first | cases hk)
  rename_i cs hcs
  split at hk <;> try (first | cases hk)
  rename_i ho
  obtain ⟨l⟩ := args
  match l, ra with
  | [a', n'], ra =>
    have rn := ra.tail.head
    obtain ⟨en, hn'⟩ := rn.int_inv
    subst en
    obtain ⟨b, arr, e, rfl, g1, g2, g3⟩ := ptr_place wf ra.head hcs
    obtain ⟨k1, k2, k3⟩ := store_cell1 (P := P) wf hcs g1 g2 g3 ho rn rfl .atomic
    refine ⟨.value (.tuple #[]), w.setCell ⟨b, o, none⟩ (.int .i64 n), ?_, .tuple [], _, c, k2, k3, .tuple rfl (fun j v d hv => by simp at hv), hk⟩
    rw [run_callFunc_extern hf hname hb hn he]
    have e0 : Extern.Atomic.storeT #[.pointer (some ⟨b, o, none⟩), .int .i64 n] = (do store (← asAddr (.pointer (some ⟨b, o, none⟩))) (.int .i64 n) .atomic; pure Extern.Atomic.none_) := rfl
    have e1 : (Extern.Atomic.storeT #[.pointer (some ⟨b, o, none⟩), .int .i64 n]).run P w = .ok (.tuple #[]) (w.setCell ⟨b, o, none⟩ (.int .i64 n)) := by
      rw [e0]
      simp [asAddr, k1, Extern.Atomic.none_]
    show ((Extern.Atomic.storeT #[.pointer (some ⟨b, o, none⟩), .int .i64 n]).run P w).andThen _ = _
    rw [e1]
    rfl
  | [], ra => have := ra.1; simp at this
  | [_], ra => have := ra.1; simp at this
  | _ :: _ :: _ :: _, ra => have := ra.1; simp at this

theorem add64_ok {g : Nat} {fn : Func} (hf : P.funcs[g]? = some fn) (hname : (fn.name == "runtime.NumGoroutine") = false) (hb : fn.body.isNone = true) (hn : Extern.findNext fn = none)
    (he : Extern.find fn = some (Extern.Atomic.update (Op.intArith .add) .i64 true)) : Spec.Ok P g (add64_S R) := by
  intro vs h k r hk w c args wf ra
  unfold add64_S at hk
  split at hk <;> try (first | cases hk)
  rename_i i o d
  split at hk <;> try (first | cases hk)
  rename_i cs hcs
  split at hk <;> try (first | cases hk)
  rename_i n hco
  have ho : o < cs.length := (List.getElem?_eq_some_iff.1 hco).1
  obtain ⟨l⟩ := args
  match l, ra with
  | [a', d'], ra =>
    have rn := ra.tail.head
    obtain ⟨en, hn'⟩ := rn.int_inv
    subst en
    obtain ⟨b, arr, e, rfl, g1, g2, g3⟩ := ptr_place wf ra.head hcs
    have hl := g3.1
    simp only [Array.length_toList] at hl
    have hcell : w.cell? ⟨b, o, none⟩ = some (.int .i64 n) := by
      rw [cell_of_row w b _ arr e (0, 0) g2, Array.getElem?_eq_getElem (by omega)]
      have := g3.2 o _ arr[o] hco (by simp [show o < arr.size by omega])
      rw [this.int_inv.1]
    obtain ⟨k1, k2, k3⟩ := store_cell1 (P := P) (v := .int .i64 (IntKind.i64.wrap (n + d))) (d := .int .i64 (IntKind.i64.wrap (n + d))) wf hcs g1 g2 g3 ho (.int (has_wrap _ _)) rfl .atomic
    refine ⟨.value (.int .i64 (IntKind.i64.wrap (n + d))), w.setCell ⟨b, o, none⟩ (.int .i64 (IntKind.i64.wrap (n + d))), ?_, _, _, c, k2, k3, .int (has_wrap _ _), hk⟩
    rw [run_callFunc_extern hf hname hb hn he]
    have e0 : Extern.Atomic.update (Op.intArith .add) .i64 true #[.pointer (some ⟨b, o, none⟩), .int .i64 d] = (do
        let a ← asAddr (.pointer (some ⟨b, o, none⟩))
        let old ← Extern.Atomic.read (.int .i64) a
        let new ← Op.intArith .add .i64 (← asInt old) (← asInt (.int .i64 d))
        store a new .atomic
        pure (if true then new else old)) := rfl
    have e1 : (Extern.Atomic.update (Op.intArith .add) .i64 true #[.pointer (some ⟨b, o, none⟩), .int .i64 d]).run P w = .ok (.int .i64 (IntKind.i64.wrap (n + d))) (w.setCell ⟨b, o, none⟩ (.int .i64 (IntKind.i64.wrap (n + d)))) := by
      rw [e0]
      simp [Extern.Atomic.read, asAddr, asInt, asIntOf, hcell, Op.intArith, k1]
    show ((Extern.Atomic.update (Op.intArith .add) .i64 true #[.pointer (some ⟨b, o, none⟩), .int .i64 d]).run P w).andThen _ = _
    rw [e1]
    rfl
  | [], ra => have := ra.1; simp at this
  | [_], ra => have := ra.1; simp at this
  | _ :: _ :: _ :: _, ra => have := ra.1; simp at this
end
end Go.Yard

