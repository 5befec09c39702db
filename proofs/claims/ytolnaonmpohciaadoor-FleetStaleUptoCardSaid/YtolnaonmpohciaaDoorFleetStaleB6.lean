/-
  FleetStale: for every input whose bulk is at most 1048576 the law returns true, and each argument reads behind the call as it read before; part 6 of 9 of the proof: an interpreter of the model's code over typed data, proved sound; the functions that the law reaches, printed as Lean functions and tied; the plain law. Own texts laid one behind the other.
-/
import Derived.OpenShut
import Derived.JoinedCond
import Derived.Test.YtolnaonmpohciaaDoorProg
import Derived.Shelf.Strings.Search1
import Derived.Shelf.Strings.SlTrimAscii
import Derived.Shelf.Unicode.DecodeAny
import Derived.Test.YtolnaonmpohciaaDoorFleetStaleB5
set_option linter.unusedSimpArgs false
set_option linter.unnecessarySimpa false
set_option linter.unusedVariables false
set_option linter.unusedSectionVars false
namespace Go.Yard
open Go.RowKit Go.ChangeShapes Go.WideShapes Go.Proofs.YtolnaonmpohciaaDoor

def kOk : V → Heap → Option Unit := fun v _ => match v with | .bool true => some () | _ => none

def Later (w w' : World) : Prop := w'.os = w.os ∧ w'.output = w.output ∧ w.heap.size ≤ w'.heap.size ∧ ∀ b, b < w.heap.size → w'.heap[b]? = w.heap[b]?

section
variable {H : Type} {enc : TypeId × Value → H} {P : Program} {tt : TTab} {w : World} {spare : Nat → Bool} {held : Bool}

theorem none_owned (c : Cfg) (b y : Nat) : ¬ Owns ([] : Heap) c b y := fun ho => by
  obtain ⟨i, f, _, g2, _⟩ := ho
  simp [Heap.at, AObj.from_] at g2

theorem calls_true {g : Nat} {fn : Func} (hf : P.funcs[g]? = some fn) (hn : (fn.name == "runtime.NumGoroutine") = false) (hb : fn.body.isNone = false) {sp : Spec Unit} (hsp : Spec.Ok P g sp) {vs : List V} {args : Array Value}
    (hs : lay0.says w) (hb0 : ∀ b, lay0.blocks b → b < w.heap.size) (ra : RepL w [] cfg0 vs args.toList) (hk : sp vs [] kOk = some ()) : Calls P g args w fun e w' => e = .returned (.bool true) ∧ Later w w' := by
  obtain ⟨nx, w1, h1, h2⟩ := hsp vs [] kOk () hk w cfg0 args (wf0 w hs hb0) ra
  have hn' : fn.name ≠ "runtime.NumGoroutine" := by simpa using hn
  have hb' : fn.body ≠ none := fun e => by rw [e] at hb; cases hb
  have h0 : (callFunc g args).run P w = .ok (.enter g args) w := by simp [callFunc, hf, hn', hb']
  rw [h0] at h1
  cases h1
  refine Calls.mono h2 fun e w' ⟨d, he, v, h', c', _, x, rv, hv⟩ => ?_
  subst he
  have hv' : v = .bool true := by
    unfold kOk at hv
    split at hv
    · rfl
    · cases hv
  subst hv'
  cases rv
  exact ⟨rfl, x.os, x.output, x.size, fun b hb => x.block b hb (none_owned _ b)⟩

def oneCell (P : Program) (t : TypeId) : Bool :=
  match P.underlying t with
  | some .bool | some (.int _) | some .string | some (.slice _) => true
  | _ => false

theorem arg_one {N : Nat} (hall : LeavesOk P tt) {t : TypeId} {v : Value} {d : DataW H} {ps : List MemPlace} {p : Leaf} {base : Nat} (ho : oneCell P t = true) (hl : leavesOf P tt 8 t = some [p]) (hval : Value.okWide P w .any base t v)
    (h : DataW.Trod enc P w 0 spare held t v d ps) (hb : Rows.uptoBulk d ≤ N) (hN : N ≤ mx) : ∃ x : p.den, Rep w [] cfg0 (p.enc x) v ∧ Small N (p.enc x) := by
  obtain ⟨n, h⟩ := h
  obtain ⟨vs, ⟨x, rfl⟩, h2, h3⟩ := read_trod hall n t _ _ 8 _ h hl hb hN
  have hc : v.cells.toList = [v] := by
    unfold oneCell at ho
    unfold Value.okWide at hval
    cases hu : P.underlying t with
    | none => rw [hu] at ho; cases ho
    | some u =>
      rw [hu] at ho hval
      cases u <;> simp only at ho <;> try (first | cases ho) <;> (cases v <;> simp [Cell.okWide, Cell.ok, hu] at hval <;> rfl)
  rw [hc] at h2
  exact ⟨x.1, h2.head, h3 _ (by show p.enc x.1 ∈ [p.enc x.1]; simp)⟩

theorem params_ok {ts : List TypeId} (h : ts.all (fun t => P.readableRec t && decide (t < P.types.size)) = true) : ∀ t ∈ ts, P.readableRec t = true ∧ t < P.types.size := by
  intro t ht
  have := List.all_eq_true.1 h t ht
  simpa using this

def aggCell (P : Program) (t : TypeId) : Bool :=
  match P.underlying t with
  | some (.struct _) | some (.array _ _) => true
  | _ => false

theorem arg_agg {N : Nat} (hall : LeavesOk P tt) {t : TypeId} {v : Value} {d : DataW H} {ps : List MemPlace} {T : Ty} {base : Nat} (ho : aggCell P t = true) (hl : leavesOf P tt 8 t = some T.leaves) (hval : Value.okWide P w .any base t v)
    (h : DataW.Trod enc P w 0 spare held t v d ps) (hb : Rows.uptoBulk d ≤ N) (hN : N ≤ mx) : ∃ x : T.den, Rep w [] cfg0 (.agg (T.cells x)) v ∧ ∀ c ∈ T.cells x, Small N c := by
  obtain ⟨n, h⟩ := h
  obtain ⟨vs, ⟨x, rfl⟩, h2, h3⟩ := read_trod hall n t _ _ 8 _ h hl hb hN
  obtain ⟨y, hy⟩ := leaves_cells T x
  rw [← hy] at h2 h3
  have hc : ∃ cs, v = .agg cs := by
    unfold aggCell at ho
    unfold Value.okWide at hval
    cases hu : P.underlying t with
    | none => rw [hu] at ho; cases ho
    | some u =>
      rw [hu] at ho hval
      cases u <;> simp only at ho <;> try (first | cases ho) <;> (obtain ⟨cs, hc, _⟩ := hval; exact ⟨cs, hc⟩)
  obtain ⟨cs, rfl⟩ := hc
  exact ⟨y, .agg (by have := h2.1; simpa [Value.cells] using this) fun j v d hv hd => h2.2 j v d hv (by simpa [Value.cells] using hd), h3⟩

theorem args_later (hl : laidOutB P = true) {w' : World} (L : Later w w') : ∀ {ts : List TypeId} {vs : List Value} {ds : List (DataW H)} {ps : List MemPlace}, (∀ t ∈ ts, P.readableRec t = true ∧ t < P.types.size) →
    DataW.TrodAll enc P w 0 (fun _ => true) true ts vs ds ps → DataW.TrodAll enc P w' 0 (fun b => decide (b < w.heap.size)) true ts vs ds ps
  | [], vs, ds, ps, _, h => by obtain ⟨rfl, rfl, rfl⟩ := trodAll_nil h; exact h
  | t :: ts, vs, ds, ps, hp, h => by
    have hlt := h.lt
    obtain ⟨v, vs1, d, ds1, p, q, rfl, rfl, rfl, h1, h2⟩ := trodAll_cons h
    obtain ⟨hr, hrow⟩ := hp t (by simp)
    have hb : ∀ x ∈ p, x.block < w.heap.size := fun x hx => hlt x (by simp [hx])
    refine trodAll_cons_mk (WideElems.Trod_stays hl hr hrow h1 (fun x hx => ?_) fun x hx => by simpa using hb x hx) (args_later hl L (fun t ht => hp t (by simp [ht])) h2)
    have := L.2.2.2 _ (hb x hx)
    cases x with
    | cell b o => simp only [World.sameAt, World.cell?]; simp only [MemPlace.block] at this; rw [this]
    | map b => exact this

theorem kept_later {w' : World} (L : Later w w') (may : MemPlace → Prop) : w.keptBut w' may := by
  refine ⟨L.1, L.2.1, fun i hi => ?_⟩
  rw [L.2.2.2 i hi]
  cases w.heap[i]? with
  | none => rfl
  | some o => cases o <;> simp

theorem post_true (hl : laidOutB P = true) {f : Func} {s : ChangeSpec} {w' : World} {args : Array Value} {ds gs : List (DataW H)} {before : List MemPlace} {tb : TypeId} (hp : ∀ t ∈ f.params.toList, P.readableRec t = true ∧ t < P.types.size)
    (hv : s.vars = []) (hs : s.fn H (ds ++ gs) = { results := [.lit (.bool true)], args := ds }) (hres : f.resultTypes = #[tb]) (hb : P.underlying tb = some .bool)
    (hW : DataW.Whole enc P f.params.toList s.vars false w args.toList ds gs before) (L : Later w w') : s.post enc P f false true false false w args (.bool true) w' := by
  have hW' := hW
  obtain ⟨p, q, hA, hV, hpq, hz, hn⟩ := hW'
  rw [hv] at hV
  obtain ⟨hg, hq⟩ := trodVars_none hV
  subst hg; subst hq
  refine ⟨ds, [], before, [], p, [], hW, ?_, ?_, ?_, kept_later L _, fun h => by cases h⟩
  · rw [hs, hres]
    exact trodAll_cons_mk (shut_bool hb _) trodAll_mk0
  · rw [hs]
    exact args_later hl L hp hA
  · rw [hs, hv]
    rfl
end
end Go.Yard

namespace Go.Proofs.YtolnaonmpohciaaDoor
open Go.Yard

def tt : TTab := [
  ⟨.other, 1, 0, [.undef], none, false, false, false⟩,
  TI.none,
  TI.none,
  ⟨.int .i64, 1, 8, [.int .i64 0], some (.int .i64), false, false, false⟩,
  ⟨.bool, 1, 1, [.bool false], some .bool, false, false, false⟩,
  ⟨.int .u8, 1, 1, [.int .u8 0], some (.int .u8), false, false, false⟩,
  TI.none,
  TI.none,
  TI.none,
  ⟨.string, 1, 16, [.str []], some .str, false, false, false⟩,
  TI.none,
  TI.none,
  TI.none,
  TI.none,
  TI.none,
  TI.none,
  TI.none,
  TI.none,
  TI.none,
  TI.none,
  ⟨.iface, 1, 16, [.niliface], none, false, false, false⟩,
  TI.none,
  ⟨.slice 3, 1, 24, [.nilsl], none, false, false, false⟩,
  ⟨.slice 57, 1, 24, [.nilsl], none, false, false, false⟩,
  ⟨.slice 59, 1, 24, [.nilsl], none, false, false, false⟩,
  TI.none,
  ⟨.struct [(0, 3), (1, 9), (2, 3), (3, 3), (4, 23), (5, 24)], 6, 88, [.int .i64 0, .str [], .int .i64 0, .int .i64 0, .nilsl, .nilsl], some .order, false, false, false⟩,
  TI.none,
  ⟨.struct [(0, 9), (1, 3), (2, 3), (3, 3), (4, 3), (5, 3), (6, 22), (7, 3), (8, 4), (9, 3), (10, 4), (11, 26)], 17, 200, [.str [], .int .i64 0, .int .i64 0, .int .i64 0, .int .i64 0, .int .i64 0, .nilsl, .int .i64 0, .bool false, .int .i64 0, .bool false, .int .i64 0, .str [], .int .i64 0, .int .i64 0, .nilsl, .nilsl], some .ctl, false, false, false⟩,
  TI.none,
  ⟨.struct [(0, 3), (1, 3), (2, 9), (3, 3), (4, 3), (5, 4), (6, 3), (7, 3), (8, 4), (9, 3)], 10, 88, [.int .i64 0, .int .i64 0, .str [], .int .i64 0, .int .i64 0, .bool false, .int .i64 0, .int .i64 0, .bool false, .int .i64 0], some .state, true, false, false⟩,
  ⟨.slice 60, 1, 24, [.nilsl], none, false, false, false⟩,
  TI.none,
  ⟨.struct [(0, 3), (1, 3), (2, 3), (3, 3), (4, 3), (5, 3), (6, 22)], 7, 72, [.int .i64 0, .int .i64 0, .int .i64 0, .int .i64 0, .int .i64 0, .int .i64 0, .nilsl], some .raw13, false, false, false⟩,
  TI.none,
  ⟨.slice 62, 1, 24, [.nilsl], none, false, false, false⟩,
  TI.none,
  ⟨.struct [(0, 3), (1, 35)], 2, 32, [.int .i64 0, .nilsl], some .layout, false, false, false⟩,
  TI.none,
  TI.none,
  TI.none,
  ⟨.slice 28, 1, 24, [.nilsl], none, false, false, false⟩,
  ⟨.other, 1, 0, [.undef], none, false, false, false⟩,
  TI.none,
  TI.none,
  TI.none,
  ⟨.other, 1, 0, [.undef], none, false, false, false⟩,
  TI.none,
  TI.none,
  ⟨.slice 30, 1, 24, [.nilsl], none, false, false, false⟩,
  ⟨.other, 1, 0, [.undef], none, false, false, false⟩,
  TI.none,
  TI.none,
  TI.none,
  TI.none,
  TI.none,
  TI.none,
  ⟨.struct [(0, 3), (1, 3), (2, 4)], 3, 24, [.int .i64 0, .int .i64 0, .bool false], some .stop, true, false, false⟩,
  TI.none,
  ⟨.struct [(0, 3), (1, 3), (2, 4)], 3, 24, [.int .i64 0, .int .i64 0, .bool false], some .way, true, false, false⟩,
  ⟨.arr 3 3, 3, 24, [.int .i64 0, .int .i64 0, .int .i64 0], some .arr3, true, false, false⟩,
  TI.none,
  ⟨.struct [(0, 3), (1, 3), (2, 3)], 3, 24, [.int .i64 0, .int .i64 0, .int .i64 0], some .edge, true, false, false⟩,
  ⟨.other, 1, 0, [.undef], none, false, false, false⟩,
  TI.none,
  ⟨.ptr 69, 1, 8, [.nilptr], none, false, false, false⟩,
  TI.none,
  TI.none,
  TI.none,
  ⟨.struct [(0, 28)], 17, 200, [.str [], .int .i64 0, .int .i64 0, .int .i64 0, .int .i64 0, .int .i64 0, .nilsl, .int .i64 0, .bool false, .int .i64 0, .bool false, .int .i64 0, .str [], .int .i64 0, .int .i64 0, .nilsl, .nilsl], some .ctl, false, false, false⟩,
  TI.none,
  TI.none,
  ⟨.arr 7 3, 7, 56, [.int .i64 0, .int .i64 0, .int .i64 0, .int .i64 0, .int .i64 0, .int .i64 0, .int .i64 0], none, true, false, false⟩,
  ⟨.func, 1, 8, [.nilfunc], none, false, false, false⟩,
  TI.none,
  ⟨.other, 1, 0, [.undef], none, false, false, false⟩,
  TI.none,
  TI.none,
  TI.none,
  TI.none,
  TI.none,
  TI.none,
  TI.none,
  TI.none,
  TI.none,
  TI.none,
  TI.none,
  TI.none,
  TI.none,
  TI.none,
  TI.none,
  TI.none,
  ⟨.func, 1, 8, [.nilfunc], none, false, false, false⟩,
  TI.none,
  TI.none,
  TI.none,
  TI.none,
  TI.none,
  TI.none,
  TI.none,
  TI.none,
  TI.none,
  TI.none,
  TI.none,
  TI.none,
  TI.none,
  TI.none,
  TI.none,
  TI.none,
  TI.none,
  TI.none,
  TI.none,
  TI.none,
  TI.none,
  TI.none,
  TI.none,
  TI.none,
  TI.none,
  TI.none,
  TI.none,
  TI.none,
  TI.none,
  TI.none,
  TI.none,
  TI.none,
  TI.none,
  TI.none,
  TI.none,
  TI.none,
  TI.none,
  TI.none,
  TI.none,
  TI.none,
  TI.none,
  TI.none,
  TI.none]

end Go.Proofs.YtolnaonmpohciaaDoor

namespace Go.Yard
open Go.RowKit

def U : Nat → List V → List V
  | 0, l => l
  | n + 1, l => .undef :: U n l
def PU : Nat → List Pat → List Pat
  | 0, l => l
  | n + 1, l => .leaf .undef :: PU n l

section
variable {R : Type} {P : Program} {tt : TTab}

abbrev Run (R : Type) (ps : List Pat) (hs : List HPat) : Type := Pat.dens ps → HPat.dens hs → (V → Heap → Option R) → Option R
abbrev LRun (R : Type) (ps : List Pat) (hs : List HPat) : Type := Pat.dens ps → HPat.dens hs → (Ex → St → Option R) → Option R
abbrev t8 {a b c d e f g h i : Type} (x : a × b × c × d × e × f × g × h × i) : i := x.2.2.2.2.2.2.2.2
def OkS (P : Program) (g : Nat) (s : Spec R → Spec R) : Prop := ∀ o, Spec.Ok P g o → Spec.Ok P g (s o)
abbrev Ent (R : Type) := Nat × Bool × Spec R
def envL : List (Ent R) → Env R
  | [], _ => none
  | e :: l, i => bif Nat.beq i e.1 then some e.2 else envL l i
inductive EntOk (P : Program) : List (Ent R) → Prop
  | n : EntOk P []
  | p {g : Nat} {sp : Spec R} {l : List (Ent R)} (h : Spec.Ok P g sp) (t : EntOk P l) : EntOk P ((g, true, sp) :: l)
  | f {g : Nat} {sp : Spec R} {l : List (Ent R)} (h : Spec.Ok P g sp) (hs : lay0.soft g = false) (t : EntOk P l) : EntOk P ((g, false, sp) :: l)
  | s {g : Nat} {sp : Spec R} {l : List (Ent R)} (h : Spec.Ok P g sp) (hs : SoftSpec sp) (t : EntOk P l) : EntOk P ((g, false, sp) :: l)
theorem EntOk.c {g : Nat} {s : Spec R → Spec R} {l : List (Ent R)} (h : OkS P g s) (t : EntOk P l) : EntOk P ((g, true, s specNo) :: l) := .p (h _ (specNo_ok _)) t
theorem EntOk.d {g : Nat} {s : Spec R → Spec R} {l : List (Ent R)} (h : OkS P g s) (hs : lay0.soft g = false) (t : EntOk P l) : EntOk P ((g, false, s specNo) :: l) := .f (h _ (specNo_ok _)) hs t
theorem envL_ok {l : List (Ent R)} (h : EntOk P l) : EOk P (envL l) := by
  induction h with
  | n => intro i b sp h; cases h
  | p h0 t ih =>
    intro i b sp h
    simp only [envL] at h
    cases hb : Nat.beq i _ with
    | true =>
      rw [hb, cond_true] at h
      cases h
      have := Nat.eq_of_beq_eq_true hb
      subst this
      exact ⟨h0, fun h => by cases h⟩
    | false =>
      rw [hb, cond_false] at h
      exact ih i b sp h
  | f h0 hs t ih =>
    intro i b sp h
    simp only [envL] at h
    cases hb : Nat.beq i _ with
    | true =>
      rw [hb, cond_true] at h
      cases h
      have := Nat.eq_of_beq_eq_true hb
      subst this
      exact ⟨h0, fun _ h => by rw [hs] at h; cases h⟩
    | false =>
      rw [hb, cond_false] at h
      exact ih i b sp h
  | s h0 hs t ih =>
    intro i b sp h
    simp only [envL] at h
    cases hb : Nat.beq i _ with
    | true =>
      rw [hb, cond_true] at h
      cases h
      have := Nat.eq_of_beq_eq_true hb
      subst this
      exact ⟨h0, fun _ _ => hs⟩
    | false =>
      rw [hb, cond_false] at h
      exact ih i b sp h

def Tied (tt : TTab) (l : List (Ent R)) (L : Nat → Option (Hint × LSpec R)) (keep : Bool) (fn : Func) (ps : List Pat) (hs : List HPat) (run : Run R ps hs) : Prop :=
  ∀ x y k, funK tt (envL l) L keep fn (codeOf fn) (Pat.encL ps x) (HPat.encL hs y) k = run x y k
theorem tie_ok (T : TOK P tt) (hm : P.follows .mixedOrders = true) {l : List (Ent R)} (hE : EntOk P l) {L : Nat → Option (Hint × LSpec R)} {g : Nat} {fn : Func} {keep : Bool} {ps : List Pat} {hs : List HPat}
    {run : Run R ps hs} (hf : P.funcs[g]? = some fn) (hb : fn.body = some (codeOf fn)) (hn : (fn.name == "runtime.NumGoroutine") = false) (hr : fn.results.size = fn.resultTypes.size)
    (hl : ∀ a ∈ loopsOf (codeOf fn), LoopOk tt (envL l) L hs.length a) (h : Tied tt l L keep fn ps hs run) : OkS P g (specBy ps hs run) :=
  fun _ ho => specBy_ok ho (funK_sound T hm (envL_ok hE) hf hb hn hr hs.length hl) h

def noT : Nat → Option (Hint × LSpec R) := fun _ => none
theorem noT_ok {E : Env R} {l : List Code} {m : Nat} : ∀ a ∈ l, LoopOk tt E noT m a := fun _ _ _ _ h => by cases h
def AllT (Q : Nat → Prop) : List Nat → Prop
  | [] => True
  | t :: l => Q t ∧ AllT Q l
theorem AllT.mem {Q : Nat → Prop} : ∀ {l : List Nat} {t : Nat}, AllT Q l → l.contains t = true → Q t
  | a :: l, t, h, ht => by
    rw [List.contains_cons, Bool.or_eq_true, beq_iff_eq] at ht
    rcases ht with rfl | ht
    · exact h.1
    · exact AllT.mem h.2 ht
def TD.off : TD → Bool
  | .other => true
  | _ => false
theorem offT {l : List Nat} (h : (List.range tt.length).all (fun t => l.contains t || ((tt.at t).d.off && !(tt.at t).eq)) = true) {t : Nat} (ht : l.contains t = false) : (tt.at t).d = .other ∧ (tt.at t).eq = false := by
  by_cases hl : t < tt.length
  · have := List.all_eq_true.1 h t (by simpa using hl)
    rw [ht, Bool.false_or, Bool.and_eq_true] at this
    refine ⟨?_, by simpa using this.2⟩
    cases hd : (tt.at t).d <;> rw [hd] at this <;> first | rfl | cases this.1
  · have : tt.at t = TI.none := by unfold TTab.at; simp [List.getD, List.getElem?_eq_none (Nat.le_of_not_lt hl)]
    rw [this]
    exact ⟨rfl, rfl⟩
theorem undT {l : List Nat} (h : (List.range tt.length).all (fun t => l.contains t || ((tt.at t).d.off && !(tt.at t).eq)) = true) (ha : AllT (fun t => (tt.at t).d.Is P t) l) (t : Nat) : (tt.at t).d.Is P t := by
  cases ht : l.contains t with
  | true => exact ha.mem ht
  | false =>
    rw [(offT h ht).1]
    trivial
theorem infT {l : List Nat} (h : (List.range tt.length).all (fun t => l.contains t || ((tt.at t).d.off && !(tt.at t).eq)) = true) (ha : AllT (fun t => InfoOk P tt t) l) (t : Nat) (ok : tt.ok t = true) : InfoOk P tt t := by
  cases ht : l.contains t with
  | true => exact ha.mem ht
  | false =>
    unfold TTab.ok at ok
    rw [(offT h ht).1] at ok
    cases ok
theorem eqT {l : List Nat} (h : (List.range tt.length).all (fun t => l.contains t || ((tt.at t).d.off && !(tt.at t).eq)) = true) (ha : AllT (fun t => (tt.at t).eq = true → EqFlat P tt t) l) (t : Nat) (hq : (tt.at t).eq = true) : EqFlat P tt t := by
  cases ht : l.contains t with
  | true => exact ha.mem ht hq
  | false =>
    rw [(offT h ht).2] at hq
    cases hq
theorem InfoOk.at {t : Nat} (i : TypeInfo) (h : (P.info? t, i.size, i.bytes, zeroOf i) = (some i, (tt.at t).size, (tt.at t).bytes, some ((tt.at t).size, (tt.at t).zero, !tt.isAgg t))) : InfoOk P tt t := by
  simp only [Prod.mk.injEq] at h
  exact ⟨i, h.1, h.2.1, h.2.2.1, h.2.2.2⟩
end
end Go.Yard

set_option maxRecDepth 100000
namespace Go.Proofs.YtolnaonmpohciaaDoor
open Go Go.Yard

def liveT : List Nat := [3, 4, 5, 9, 20, 22, 23, 24, 26, 28, 30, 31, 33, 35, 37, 41, 49, 57, 59, 60, 62, 65, 69, 72, 73, 92]
theorem liveOk : (List.range tt.length).all (fun t => liveT.contains t || ((tt.at t).d.off && !(tt.at t).eq)) = true := by kernel_rfl
theorem TTund : ∀ t, (tt.at t).d.Is Tryd.prog t := undT liveOk ⟨(by kernel_rfl : Tryd.prog.underlying 3 = some (.int .i64)), (by kernel_rfl : Tryd.prog.underlying 4 = some .bool), (by kernel_rfl : Tryd.prog.underlying 5 = some (.int .u8)), (by kernel_rfl : Tryd.prog.underlying 9 = some .string), ⟨_, rfl⟩, (by kernel_rfl : Tryd.prog.underlying 22 = some (.slice 3)), (by kernel_rfl : Tryd.prog.underlying 23 = some (.slice 57)), (by kernel_rfl : Tryd.prog.underlying 24 = some (.slice 59)), ⟨Tryd.prog.fieldsOf 26, by kernel_rfl, by kernel_rfl⟩, ⟨Tryd.prog.fieldsOf 28, by kernel_rfl, by kernel_rfl⟩, ⟨Tryd.prog.fieldsOf 30, by kernel_rfl, by kernel_rfl⟩, (by kernel_rfl : Tryd.prog.underlying 31 = some (.slice 60)), ⟨Tryd.prog.fieldsOf 33, by kernel_rfl, by kernel_rfl⟩, (by kernel_rfl : Tryd.prog.underlying 35 = some (.slice 62)), ⟨Tryd.prog.fieldsOf 37, by kernel_rfl, by kernel_rfl⟩, (by kernel_rfl : Tryd.prog.underlying 41 = some (.slice 28)), (by kernel_rfl : Tryd.prog.underlying 49 = some (.slice 30)), ⟨Tryd.prog.fieldsOf 57, by kernel_rfl, by kernel_rfl⟩, ⟨Tryd.prog.fieldsOf 59, by kernel_rfl, by kernel_rfl⟩, (by kernel_rfl : Tryd.prog.underlying 60 = some (.array 3 3)), ⟨Tryd.prog.fieldsOf 62, by kernel_rfl, by kernel_rfl⟩, (by kernel_rfl : Tryd.prog.underlying 65 = some (.pointer 69)), ⟨Tryd.prog.fieldsOf 69, by kernel_rfl, by kernel_rfl⟩, (by kernel_rfl : Tryd.prog.underlying 72 = some (.array 7 3)), ⟨_, _, _, rfl⟩, ⟨_, _, _, rfl⟩, trivial⟩
theorem TTinf : ∀ t, tt.ok t = true → InfoOk Tryd.prog tt t := infT liveOk ⟨.at Tryd.t3 (by kernel_rfl), .at Tryd.t4 (by kernel_rfl), .at Tryd.t5 (by kernel_rfl), .at Tryd.t9 (by kernel_rfl), .at Tryd.t20 (by kernel_rfl), .at Tryd.t22 (by kernel_rfl), .at Tryd.t23 (by kernel_rfl), .at Tryd.t24 (by kernel_rfl), .at Tryd.t26 (by kernel_rfl), .at Tryd.t28 (by kernel_rfl), .at Tryd.t30 (by kernel_rfl), .at Tryd.t31 (by kernel_rfl), .at Tryd.t33 (by kernel_rfl), .at Tryd.t35 (by kernel_rfl), .at Tryd.t37 (by kernel_rfl), .at Tryd.t41 (by kernel_rfl), .at Tryd.t49 (by kernel_rfl), .at Tryd.t57 (by kernel_rfl), .at Tryd.t59 (by kernel_rfl), .at Tryd.t60 (by kernel_rfl), .at Tryd.t62 (by kernel_rfl), .at Tryd.t65 (by kernel_rfl), .at Tryd.t69 (by kernel_rfl), .at Tryd.t72 (by kernel_rfl), .at Tryd.t73 (by kernel_rfl), .at Tryd.t92 (by kernel_rfl), trivial⟩
theorem TTeq : ∀ t, (tt.at t).eq = true → EqFlat Tryd.prog tt t := eqT liveOk ⟨(nofun), (nofun), (nofun), (nofun), (nofun), (nofun), (nofun), (nofun), (nofun), (nofun), fun _ => .of (by kernel_rfl) (by kernel_rfl) (by kernel_rfl) (by kernel_rfl), (nofun), (nofun), (nofun), (nofun), (nofun), (nofun), fun _ => .of (by kernel_rfl) (by kernel_rfl) (by kernel_rfl) (by kernel_rfl), fun _ => .of (by kernel_rfl) (by kernel_rfl) (by kernel_rfl) (by kernel_rfl), fun _ => .ofArr (e := 3) (by kernel_rfl) (by kernel_rfl) (by kernel_rfl), fun _ => .of (by kernel_rfl) (by kernel_rfl) (by kernel_rfl) (by kernel_rfl), (nofun), (nofun), fun _ => .ofArr (e := 3) (by kernel_rfl) (by kernel_rfl) (by kernel_rfl), (nofun), (nofun), trivial⟩
theorem TTeqs : ∀ t, ∀ (w : World) (h : Heap) (c : Cfg) (cs ds : List V) (xs ys : Array Value) (b : Bool), eqOk (tt.at t) cs ds = true → RepL w h c cs xs.toList → RepL w h c ds ys.toList →
    eqCells cs ds = some b → Tryd.prog.eqGuardType Tryd.prog.depth t = false ∧ (Op.equalIn 10000 t (.agg xs) (.agg ys)).run Tryd.prog w = .ok b w :=
  fun t _ _ _ _ _ _ _ _ hk rx ry hb => eqs_flat (TTeq t (eqOk_eq hk)) hk rx ry hb
theorem TT : TOK Tryd.prog tt := ⟨TTund, fun t h => (TTinf t h).spec, TTeqs, u8s_of (by kernel_rfl), blds_of (by kernel_rfl), fun t h => (TTinf t h).one⟩
theorem mixed : Tryd.prog.follows .mixedOrders = true := by kernel_rfl
end Go.Proofs.YtolnaonmpohciaaDoor

set_option maxRecDepth 100000
namespace Go.Proofs
open Go.Shelf
def Tryd.lay197_ren : Go.Shelf.Ren := ⟨fun | 197 => 75 | 260 => 79 | n => n, fun | 9 => 9 | 21 => 21 | 3 => 3 | 4 => 4 | 5 => 5 | 105 => 104 | 119 => 110 | 0 => 0 | 46 => 111 | 139 => 114 | 138 => 113 | n => n, fun | 3 => 0 | 4 => 1 | n => n⟩
theorem Tryd.lay197 : Go.Proofs.Lays.n197 Tryd.prog Tryd.lay197_ren := {
  mixed := by kernel_rfl
  f197 := Tryd.func75.trans (congrArg some (by kernel_rfl))
  f260 := Tryd.func79.trans (congrArg some (by kernel_rfl))
  t0 := Tryd.underlying0
  a0 := Tryd.isAgg0
  z0 := Tryd.sizeOf0
  v0 := Tryd.zeroValue0
  t3 := Tryd.underlying3
  a3 := Tryd.isAgg3
  z3 := Tryd.sizeOf3
  v3 := Tryd.zeroValue3
  t4 := Tryd.underlying4
  a4 := Tryd.isAgg4
  z4 := Tryd.sizeOf4
  v4 := Tryd.zeroValue4
  t5 := Tryd.underlying5
  a5 := Tryd.isAgg5
  z5 := Tryd.sizeOf5
  v5 := Tryd.zeroValue5
  t9 := Tryd.underlying9
  a9 := Tryd.isAgg9
  z9 := Tryd.sizeOf9
  v9 := Tryd.zeroValue9
  t21 := Tryd.underlying21
  a21 := Tryd.isAgg21
  z21 := Tryd.sizeOf21
  v21 := Tryd.zeroValue21
  t46 := Tryd.underlying111
  a46 := Tryd.isAgg111
  z46 := Tryd.sizeOf111
  v46 := Tryd.zeroValue111
  t105 := Tryd.underlying104
  a105 := Tryd.isAgg104
  z105 := Tryd.sizeOf104
  v105 := Tryd.zeroValue104
  t119 := Tryd.underlying110
  a119 := Tryd.isAgg110
  z119 := Tryd.sizeOf110
  t138 := Tryd.underlying113
  a138 := Tryd.isAgg113
  z138 := Tryd.sizeOf113
  v138 := Tryd.zeroValue113
  t139 := Tryd.underlying114
  a139 := Tryd.isAgg114
  z139 := Tryd.sizeOf114
  v139 := Tryd.zeroValue114
  g3 := by kernel_rfl
  g4 := by kernel_rfl }

def Tryd.lay161_ren : Go.Shelf.Ren := ⟨fun | 161 => 64 | 231 => 69 | 227 => 70 | 233 => 71 | 235 => 72 | 228 => 74 | 197 => 75 | 151 => 76 | 260 => 79 | 152 => 80 | 137 => 82 | 119 => 83 | 224 => 84 | 225 => 85 | 217 => 86 | 266 => 87 | n => n, fun | 9 => 9 | 4 => 4 | 3 => 3 | 5 => 5 | 117 => 98 | 116 => 97 | 0 => 0 | 124 => 101 | 105 => 104 | 21 => 21 | 119 => 110 | 46 => 111 | 139 => 114 | 138 => 113 | n => n, fun | 3 => 0 | 4 => 1 | n => n⟩
theorem Tryd.lay161 : Go.Proofs.Lays.n161 Tryd.prog Tryd.lay161_ren := {
  mixed := by kernel_rfl
  f119 := Tryd.func83.trans (congrArg some (by kernel_rfl))
  f137 := Tryd.func82.trans (congrArg some (by kernel_rfl))
  f151 := Tryd.func76.trans (congrArg some (by kernel_rfl))
  f152 := Tryd.func80.trans (congrArg some (by kernel_rfl))
  f161 := Tryd.func64.trans (congrArg some (by kernel_rfl))
  f197 := Tryd.func75.trans (congrArg some (by kernel_rfl))
  f217 := Tryd.func86.trans (congrArg some (by kernel_rfl))
  f224 := Tryd.func84.trans (congrArg some (by kernel_rfl))
  f225 := Tryd.func85.trans (congrArg some (by kernel_rfl))
  f227 := Tryd.func70.trans (congrArg some (by kernel_rfl))
  f228 := Tryd.func74.trans (congrArg some (by kernel_rfl))
  f231 := Tryd.func69.trans (congrArg some (by kernel_rfl))
  f233 := Tryd.func71.trans (congrArg some (by kernel_rfl))
  f235 := Tryd.func72.trans (congrArg some (by kernel_rfl))
  f260 := Tryd.func79.trans (congrArg some (by kernel_rfl))
  f266 := Tryd.func87.trans (congrArg some (by kernel_rfl))
  t0 := Tryd.underlying0
  a0 := Tryd.isAgg0
  z0 := Tryd.sizeOf0
  v0 := Tryd.zeroValue0
  t3 := Tryd.underlying3
  a3 := Tryd.isAgg3
  z3 := Tryd.sizeOf3
  v3 := Tryd.zeroValue3
  t4 := Tryd.underlying4
  a4 := Tryd.isAgg4
  z4 := Tryd.sizeOf4
  v4 := Tryd.zeroValue4
  t5 := Tryd.underlying5
  a5 := Tryd.isAgg5
  z5 := Tryd.sizeOf5
  v5 := Tryd.zeroValue5
  t9 := Tryd.underlying9
  a9 := Tryd.isAgg9
  z9 := Tryd.sizeOf9
  v9 := Tryd.zeroValue9
  t21 := Tryd.underlying21
  a21 := Tryd.isAgg21
  z21 := Tryd.sizeOf21
  v21 := Tryd.zeroValue21
  t46 := Tryd.underlying111
  a46 := Tryd.isAgg111
  z46 := Tryd.sizeOf111
  v46 := Tryd.zeroValue111
  t105 := Tryd.underlying104
  a105 := Tryd.isAgg104
  z105 := Tryd.sizeOf104
  v105 := Tryd.zeroValue104
  t116 := Tryd.underlying97
  a116 := Tryd.isAgg97
  z116 := Tryd.sizeOf97
  t117 := Tryd.underlying98
  a117 := Tryd.isAgg98
  z117 := Tryd.sizeOf98
  v117 := Tryd.zeroValue98
  t119 := Tryd.underlying110
  a119 := Tryd.isAgg110
  z119 := Tryd.sizeOf110
  t124 := Tryd.underlying101
  a124 := Tryd.isAgg101
  z124 := Tryd.sizeOf101
  v124 := Tryd.zeroValue101
  t138 := Tryd.underlying113
  a138 := Tryd.isAgg113
  z138 := Tryd.sizeOf113
  v138 := Tryd.zeroValue113
  t139 := Tryd.underlying114
  a139 := Tryd.isAgg114
  z139 := Tryd.sizeOf114
  v139 := Tryd.zeroValue114
  g3 := by kernel_rfl
  g4 := by kernel_rfl }

end Go.Proofs

