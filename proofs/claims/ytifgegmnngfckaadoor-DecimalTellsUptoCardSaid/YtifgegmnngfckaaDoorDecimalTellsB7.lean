/-
  DecimalTells: for every input whose bulk is at most 1048576 the law returns true, and each argument reads behind the call as it read before; part 7 of 9 of the proof: an interpreter of the model's code over typed data, proved sound; the functions that the law reaches, printed as Lean functions and tied; the plain law. Own texts laid one behind the other.
-/
import Derived.Test.YtifgegmnngfckaaDoorCards
import Derived.Test.YtifgegmnngfckaaDoorTie
import Derived.Lib.LaidU8T
import Derived.Stop.LaidErr
import Derived.Deep.DeepHandedRow
import Derived.Deep.DeepWitnessRowRef
import Derived.WalkKit
import Derived.ProofKit
import Derived.OpenShut
import Derived.Lib.ValidU
import Derived.Lib.ItoaLen
import Derived.Lib.Repeat
import Derived.Lib.AtoiAll
import Derived.Lib.IndexAny
import Derived.Lib.Bytealg
import Derived.Lib.SlTrimSet
import Derived.Sort.Grow
import Derived.Shelf.Strings.BuilderX
import Derived.KernelRfl
import Derived.Lib.ValidLaws
import Derived.Lib.MapLaws
import Derived.Lib.TrimUEq
import Derived.Lib.RuneBytes
import Derived.Lib.ItoaMem
import Derived.Test.YtifgegmnngfckaaDoorDecimalTellsB6
set_option linter.unusedSimpArgs false
set_option linter.unnecessarySimpa false
set_option linter.unusedVariables false
set_option linter.unusedSectionVars false
set_option maxRecDepth 100000
namespace Go.Proofs.YtifgegmnngfckaaDoor.Door
open Go Go.Lib Go.RowKit Go.ChangeShapes Go.Yard

theorem own : ownKnob Tryd.prog.godebug = none := by kernel_rfl
theorem leaves : LeavesOk Tryd.prog Go.Proofs.YtifgegmnngfckaaDoor.tt := leaves_ok (by kernel_rfl)

theorem gSyn : Tryd.prog.globalNamed "strconv.ErrSyntax" = some 2 := by kernel_rfl
theorem gRng : Tryd.prog.globalNamed "strconv.ErrRange" = some 3 := by kernel_rfl
theorem tSyn : (Tryd.prog.globals[2]?).map (·.type) = some 68 := by kernel_rfl
theorem tRng : (Tryd.prog.globals[3]?).map (·.type) = some 68 := by kernel_rfl
theorem star : "*" ++ "errors.errorString" = "*errors.errorString" := by decide
theorem row155 (u : TypeId) (h : Tryd.prog.typeName? 3 u = some "*errors.errorString") : u = 155 :=
  typeName_ptr_named (nm := "errors.errorString") (by rw [star]; kernel_rfl) (by kernel_rfl) (by decide) u (by rw [star]; exact h)

theorem lt_of_var {n : String} {g : Nat} {W : World} {cs : Array Value} (hg : Tryd.prog.globalNamed n = some g) (h : W.var? Tryd.prog n = some cs) : g < W.heap.size := by
  unfold World.var? at h
  simp only [hg, Option.bind_some] at h
  rcases Nat.lt_or_ge g W.heap.size with h' | h'
  · exact h'
  · simp [Array.getElem?_eq_none h'] at h

theorem lay_met {W : World} (h : laidMet Tryd.prog Rows.quoteTellsUptoRow.laid W) : lay0.says W ∧ ∀ b, lay0.blocks b → b < W.heap.size := by
  have r0 : VarReads Tryd.prog W "unicode/utf8.first" firstData := laidMet.reads h (.tail _ (.tail _ (.tail _ (.tail _ (.tail _ (.tail _ (.head _)))))))
  have r1 : VarReads Tryd.prog W "unicode/utf8.acceptRanges" acceptData := laidMet.reads h (.tail _ (.tail _ (.tail _ (.head _))))
  have ht : Utf8Tabs 0 1 W := utf8Tabs_of_readsT (U8Types.of196 Tryd.lay196) ⟨by kernel_rfl, by kernel_rfl, by kernel_rfl, by kernel_rfl, by kernel_rfl, by kernel_rfl, by kernel_rfl⟩ r0 r1
  have h2 := laidMet.tail (laidMet.tail h)
  have hp : TabIs Tryd.prog W "internal/strconv.uint64pow10" .u64 pow10Tab := tabIs_of_head (t := 150) (e := 122) (n := 20) lay_pow10 (by kernel_rfl) (by kernel_rfl) (by kernel_rfl) (by kernel_rfl) (by kernel_rfl) h2
  have h4 := laidMet.tail (laidMet.tail h2)
  obtain ⟨a3, s3, v3, _⟩ := laid_sentinel (ms := #[("Error", 74)]) (f := { name := "s", type := 9, offset := 0, embedded := false, tag := "", pkgPath := "errors", byteOffset := 0 }) (te := 157) (ts := 9) h4 gRng tRng (by kernel_rfl) row155 (by kernel_rfl) (by kernel_rfl) rfl rfl (by kernel_rfl) (by kernel_rfl) (by kernel_rfl)
  obtain ⟨a2, s2, v2, _⟩ := laid_sentinel (ms := #[("Error", 74)]) (f := { name := "s", type := 9, offset := 0, embedded := false, tag := "", pkgPath := "errors", byteOffset := 0 }) (te := 157) (ts := 9) (laidMet.tail h4) gSyn tSyn (by kernel_rfl) row155 (by kernel_rfl) (by kernel_rfl) rfl rfl (by kernel_rfl) (by kernel_rfl) (by kernel_rfl)
  refine ⟨⟨ht, hp, ⟨_, _, World.var?_cell gSyn v2 0⟩, ⟨_, _, World.var?_cell gRng v3 0⟩⟩, fun b hb => ?_⟩
  have hb : b < 8 := hb
  obtain ⟨g, t, cs, fuel, p, hg, _, hv, _⟩ : VarReads Tryd.prog W "math/bits.deBruijn64tab" Rows.laid_math_bits_deBruijn64tab := laidMet.reads h (.tail _ (.head _))
  have e : (some 7 : Option Nat) = some g := (by kernel_rfl : Tryd.prog.globalNamed "math/bits.deBruijn64tab" = some 7).symm.trans hg
  cases e
  have l4 := lt_of_var hg hv
  omega

abbrev synS : ByteArray := { data := #[105, 110, 118, 97, 108, 105, 100, 32, 115, 121, 110, 116, 97, 120] }
abbrev rngS : ByteArray := { data := #[118, 97, 108, 117, 101, 32, 111, 117, 116, 32, 111, 102, 32, 114, 97, 110, 103, 101] }
noncomputable def low : Nat := (World.holding Tryd.prog default ⟨#[], #[], []⟩).heap.size
def lit1 : DataW Unit → Value
  | .lit (.int k n) => .int k n
  | _ => .int .u8 0
def litsOf : DataW Unit → List Value
  | .agg l => l.map lit1
  | _ => []
noncomputable def laidWorld (os : Os) : World :=
  let w0 := World.holding Tryd.prog os ⟨#[.cells #[.string synS] 157, .cells #[.string rngS] 157], #[], []⟩
  let put (h : Array Obj) (g : Nat) (cs : Array Value) : Array Obj := h.modify g fun
    | .cells _ t frozen => .cells cs t frozen
    | o => o
  let h0 := put w0.heap 0 (firstTab.map fun z => Value.int .u8 z).toArray
  let h1 := put h0 1 ((List.range 16).flatMap fun i => [Value.int .u8 (accLo i), Value.int .u8 (accHi i)]).toArray
  let h2 := put h1 2 #[.iface 155 (.pointer (some ⟨low, 0, none⟩))]
  let h3 := put h2 3 #[.iface 155 (.pointer (some ⟨low + 1, 0, none⟩))]
  let h4 := put h3 4 (pow10Tab.map fun z => Value.int .u64 z).toArray
  let h6 := put h4 6 (litsOf Rows.laid_math_bits_deBruijn32tab).toArray
  let h7 := put h6 7 (litsOf Rows.laid_math_bits_deBruijn64tab).toArray
  { w0 with heap := h7 }

theorem laid_met (os : Os) (args : Array Value) : laidMet Tryd.prog Rows.quoteTellsUptoRow.laid ((laidWorld os).forCall (fun _ _ => 0) ⟨#[], args, []⟩).memory :=
  laidMet_of_run' 8 (by kernel_rfl) (by kernel_rfl)
end Go.Proofs.YtifgegmnngfckaaDoor.Door

namespace Go.Yard
open Go.RowKit

section
variable {P : Program} {tt : TTab} {w w' : World} {h h' : Heap} {c c' : Cfg} {R : Type}

theorem below_ext (hb : Below w.heap.size w w') : Ext w h c w' h c where
  os := hb.os
  tape := hb.tape
  output := hb.output
  size := hb.size
  used := fun _ hi => hi
  same := fun i hi hd => ⟨sim_refl (live_of hi.2 hd) (fun _ _ _ => .inr trivial), rfl, rfl⟩
  cell := fun b x hx _ => blocks_cell (hb.block b hx)
  block := fun b hx _ => hb.block b hx
  owns := fun _ _ _ ho => ho
  ext := rfl
  arr := fun b arr e fz hx => ⟨arr, fz, by rw [hb.block b (lt_heap hx)]; exact hx, rfl⟩

theorem below_wf (wf : WF w h c) (hb : Below w.heap.size w w') : WF w' h c where
  disj := wf.disj
  extlt := fun b x he => Nat.lt_of_lt_of_le (wf.extlt b x he) hb.size
  obj := fun i hi => by
    by_cases hl : (h.at i).live
    · exact (wf.obj i hi).keep (below_ext hb) (fun b hb' => hb.block b ((wf.obj i hi).lt hl hb')) rfl rfl
    · have h0 : h.at i = .free ∨ h.at i = .dead := by revert hl; cases h.at i <;> simp [AObj.live]
      rcases h0 with h0 | h0 <;> rw [h0] <;> trivial
  inj := wf.inj
  lay := wf.lay_ext (below_ext hb)

theorem callsTo_of {g : Nat} {fn : Func} (hf : P.funcs[g]? = some fn) (hn : (fn.name == "runtime.NumGoroutine") = false) (hb : fn.body.isNone = false) {args : Array Value} {Q : Value → World → Prop}
    (h : Calls P g args w fun e w' => ∃ d, e = .returned d ∧ Q d w') : CallsTo P g args w Q := by
  refine ⟨.enter g args, w, ?_, h⟩
  have hn' : fn.name ≠ "runtime.NumGoroutine" := by simpa using hn
  have hb' : fn.body ≠ none := fun e => by rw [e] at hb; cases hb
  simp [callFunc, hf, hn', hb']

theorem hand_plain {g : Nat} {fn : Func} (hf : P.funcs[g]? = some fn) (hn : (fn.name == "runtime.NumGoroutine") = false) (hb : fn.body.isNone = false) {sp : Spec R}
    (hs : ∀ vs hp k r, sp vs hp k = some r → ∀ (w : World) (c : Cfg) (args : Array Value), WF w hp c → RepL w hp c vs args.toList →
      ∃ v, k v hp = some r ∧ Calls P g args w fun e w' => ∃ d, e = .returned d ∧ Below w.heap.size w w' ∧ Rep w' hp c v d) : Spec.Ok P g sp := by
  intro vs hp k r hk w c args wf ra
  obtain ⟨v, hv, hc⟩ := hs vs hp k r hk w c args wf ra
  refine callsTo_of hf hn hb (Calls.mono hc ?_)
  rintro e w' ⟨d, he, hbl, hr⟩
  exact ⟨d, he, v, hp, c, below_wf wf hbl, below_ext hbl, hr, hv⟩

theorem repL1 {v : V} {args : Array Value} (ra : RepL w h c [v] args.toList) : ∃ d, args = #[d] ∧ Rep w h c v d := by
  obtain ⟨l⟩ := args
  match l, ra with
  | [d], ra => exact ⟨d, rfl, ra.head⟩
  | [], ra => have := ra.1; simp at this
  | _ :: _ :: _, ra => have := ra.1; simp at this
theorem repL2 {u v : V} {args : Array Value} (ra : RepL w h c [u, v] args.toList) : ∃ d e, args = #[d, e] ∧ Rep w h c u d ∧ Rep w h c v e := by
  obtain ⟨l⟩ := args
  match l, ra with
  | [d, e], ra => exact ⟨d, e, rfl, ra.head, ra.tail.head⟩
  | [], ra => have := ra.1; simp at this
  | [_], ra => have := ra.1; simp at this
  | _ :: _ :: _ :: _, ra => have := ra.1; simp at this
end
end Go.Yard

namespace Go.Yard
open Go.RowKit

section
variable {P : Program} {tt : TTab} {w w' : World} {h h' : Heap} {c c' : Cfg} {R : Type}

def bcc_S (R : Type) : Spec R := fun vs h k =>
  match vs with
  | [.ptr i 0] => (match h.at i with | .bld _ => k (.tuple []) h | _ => none)
  | _ => none

theorem bld_place {i : Nat} {v : V} {a' : Value} (wf : WF w h c) (ra : Rep w h c (.ptr i 0) a') (hv : h.at i = .bld v) :
    ∃ b p d, a' = .pointer (some ⟨b, 0, none⟩) ∧ c.blk i = some b ∧ w.heap[b]? = some (Obj.cells #[p, d] lay0.bld (0, 0)) ∧ (p = .pointer none ∨ p = .pointer (some ⟨b, 0, none⟩)) ∧ Rep w h c v d := by
  have hi := Heap.at_live hv (by simp)
  have ho := wf.obj i hi
  rw [hv] at ho
  obtain ⟨b, p, d, g1, g2, g3, g4⟩ := ho
  cases ra with
  | ptr hu hq =>
    obtain ⟨b', rfl, hb'⟩ := hq
    have := hb' (by rw [hv]; simp)
    rw [g1] at this; cases this
    exact ⟨b, p, d, rfl, g1, g2, g3, g4⟩

theorem bcc_ok {g : Nat} {fn : Func} (hf : P.funcs[g]? = some fn) (hn : (fn.name == "runtime.NumGoroutine") = false) (hb : fn.body.isNone = false)
    (fresh : ∀ (b : Nat) (w : World), w.cell? ⟨b, 0, none⟩ = some (.pointer none) → w.shape? b = some (lay0.bld, 2) → w.frozen? ⟨b, 0, none⟩ = false →
      Calls P g #[.pointer (some ⟨b, 0, none⟩)] w fun e w' => e = .returned (.tuple #[]) ∧ w' = w.setCell ⟨b, 0, none⟩ (.pointer (some ⟨b, 0, none⟩)))
    (used : ∀ (b : Nat) (w : World), w.cell? ⟨b, 0, none⟩ = some (.pointer (some ⟨b, 0, none⟩)) → Calls P g #[.pointer (some ⟨b, 0, none⟩)] w fun e w' => e = .returned (.tuple #[]) ∧ w' = w) : Spec.Ok P g (bcc_S R) := by
  intro vs h k r hk w c args wf ra
  unfold bcc_S at hk
  split at hk <;> try (first | cases hk)
  rename_i i
  split at hk <;> try (first | cases hk)
  rename_i v hv
  obtain ⟨a', rfl, r1⟩ := repL1 ra
  obtain ⟨b, p, d, rfl, g1, g2, g3, g4⟩ := bld_place wf r1 hv
  have hc0 : w.cell? ⟨b, 0, none⟩ = some p := by rw [cell_of_row w b _ _ _ _ g2]; rfl
  have rt : ∀ w' h' c', Rep w' h' c' (.tuple []) (.tuple #[]) := fun w' h' c' => .tuple rfl (fun j v d hv => by simp at hv)
  rcases g3 with rfl | rfl
  · refine callsTo_of hf hn hb (Calls.mono (fresh b w hc0 (by simp [World.shape?, g2]) (frozen_none g2 0)) ?_)
    rintro e w' ⟨he, rfl⟩
    have hb' : (w.setCell ⟨b, 0, none⟩ (.pointer (some ⟨b, 0, none⟩))).heap[b]? = some (.cells #[.pointer (some ⟨b, 0, none⟩), d] lay0.bld (0, 0)) := by
      simp [World.setCell, Array.getElem?_modify, g2]
    have hw : Wrote w (w.setCell ⟨b, 0, none⟩ (.pointer (some ⟨b, 0, none⟩))) b #[.pointer (some ⟨b, 0, none⟩), d] lay0.bld (0, 0) := ⟨rfl, rfl, rfl, by simp, fun k hk => heap_setCell_other w _ k _ hk, hb'⟩
    have hfrom : (h.at i).from_ (c.off i) = some 0 := by rw [hv]; rfl
    have hsim : (h.at i).sim (.bld v) := by rw [hv]; trivial
    have hset : h.set i (.bld v) = h := by
      have hi := Heap.at_live hv (by simp)
      have e : h[i] = .bld v := by
        have := hv
        unfold Heap.at at this
        simpa [List.getD, List.getElem?_eq_getElem hi] using this
      rw [← e]
      exact List.set_getElem_self hi
    have x := upd_ext g1 g2 hw rfl hfrom rfl hsim
    have q := upd_wf wf g1 g2 hw rfl hfrom rfl hsim ⟨b, _, d, g1, hb', .inr rfl, g4.mono x⟩
    rw [hset] at x q
    exact ⟨_, he, _, h, c, q, x, rt _ _ _, hk⟩
  · refine callsTo_of hf hn hb (Calls.mono (used b w hc0) ?_)
    rintro e w' ⟨he, rfl⟩
    exact ⟨_, he, _, h, c, wf, .refl _ _ _, rt _ _ _, hk⟩

def bstr (l : List Int) : Str := l.map fun n => UInt8.ofNat n.toNat

theorem bstr_len (l : List Int) : (bstr l).length = l.length := List.length_map _
theorem bstr_get (l : List Int) (m : Nat) (x : UInt8) (h : (bstr l)[m]? = some x) : ∃ n, l[m]? = some n ∧ x = UInt8.ofNat n.toNat := by
  unfold bstr at h
  rw [List.getElem?_map] at h
  cases hm : l[m]? with
  | none => rw [hm] at h; cases h
  | some n => rw [hm] at h; simp at h; exact ⟨n, rfl, h.symm⟩

def bstr_S (R : Type) : Spec R := fun vs h k =>
  match vs with
  | [.ptr i 0] =>
    (match h.at i with
     | .bld .nilsl => k (.str []) h
     | .bld (.sl (.int .u8) l (.own j)) => (match h.at j with | .tok => k (.str (bstr l)) h | _ => none)
     | _ => none)
  | _ => none

theorem bstr_soft : SoftSpec (bstr_S R) := by
  intro vs h k k' he
  unfold bstr_S
  split <;> try rfl
  split <;> try (first | rfl | exact he _)
  split <;> first | rfl | exact he _

theorem freeze_wf (wf : WF w h c) {j g : Nat} (hj : h.at j = .tok) (hg : c.blk j = some g) {cur : Array Value} {e : TypeId} {fz fz' : Nat × Nat} (h1 : w.heap[g]? = some (.cells cur e fz))
    (hos : w'.os = w.os) (htape : w'.tape = w.tape) (hout : w'.output = w.output) (hsize : w'.heap.size = w.heap.size) (hoth : ∀ k, k ≠ g → w'.heap[k]? = w.heap[k]?) (h2 : w'.heap[g]? = some (.cells cur e fz'))
    (hfz : (fz.1 = fz.2 ∨ fz.2 ≤ c.off j) → (fz'.1 = fz'.2 ∨ fz'.2 ≤ c.off j)) :
    WF w' h c ∧ Ext w h c w' h c := by
  have hjl := Heap.at_live hj (by simp)
  have hown : Owns h c g (c.off j) := ⟨j, c.off j, hg, by rw [hj]; rfl, Nat.le_refl _⟩
  have hcell : ∀ b x, w'.cell? ⟨b, x, none⟩ = w.cell? ⟨b, x, none⟩ := fun b x => by
    by_cases hb : b = g
    · subst hb; rw [cell_of_row w' b x cur e fz' h2, cell_of_row w b x cur e fz h1]
    · exact blocks_cell (hoth b hb)
  have x : Ext w h c w' h c := {
    os := hos
    tape := htape
    output := hout
    size := by omega
    used := (Ext.refl w h c).used
    same := (Ext.refl w h c).same
    cell := fun b x _ _ => hcell b x
    block := fun b _ ho => hoth b (by rintro rfl; exact ho _ hown)
    owns := (Ext.refl w h c).owns
    ext := rfl
    arr := fun b arr el fz0 hb => by
      by_cases hbg : b = g
      · subst hbg; rw [h1] at hb; cases hb; exact ⟨cur, fz', h2, rfl⟩
      · exact ⟨arr, fz0, by rw [hoth b hbg]; exact hb, rfl⟩ }
  refine ⟨?_, x⟩
  exact {
    lay := wf.lay_ext x
    disj := wf.disj
    extlt := fun b y he => by rw [hsize]; exact wf.extlt b y he
    obj := fun i hi => by
      by_cases hij : i = j
      · subst hij
        have := wf.obj i hi
        rw [hj] at this ⊢
        rcases this with h0 | ⟨b', arr', e', fz0, p1, p2, p3, p4⟩
        · rw [hg] at h0; cases h0
        · rw [hg] at p1; cases p1
          rw [h1] at p2; cases p2
          exact .inr ⟨g, cur, e, fz', hg, h2, p3, hfz p4⟩
      · by_cases hl : (h.at i).live
        · refine (wf.obj i hi).keep x (fun b hb => hoth b ?_) rfl rfl
          rintro rfl
          exact hij (wf.inj i j b hl (by rw [hj]; trivial) hb hg)
        · have h0 : h.at i = .free ∨ h.at i = .dead := by revert hl; cases h.at i <;> simp [AObj.live]
          rcases h0 with h0 | h0 <;> rw [h0] <;> trivial
    inj := wf.inj }

theorem freeze_facts {q n : Nat} {cur : Array Value} {e : TypeId} {fz : Nat × Nat} (hn : n ≠ 0) (hq : w.heap[q]? = some (.cells cur e fz)) :
    (w.drew.freeze ⟨q, 0, none⟩ n).os = w.os ∧ (w.drew.freeze ⟨q, 0, none⟩ n).tape = w.tape ∧ (w.drew.freeze ⟨q, 0, none⟩ n).output = w.output ∧ (w.drew.freeze ⟨q, 0, none⟩ n).heap.size = w.heap.size ∧
      (∀ k, k ≠ q → (w.drew.freeze ⟨q, 0, none⟩ n).heap[k]? = w.heap[k]?) ∧ ∃ fz', (w.drew.freeze ⟨q, 0, none⟩ n).heap[q]? = some (.cells cur e fz') ∧ ∀ o, n ≤ o → (fz.1 = fz.2 ∨ fz.2 ≤ o) → (fz'.1 = fz'.2 ∨ fz'.2 ≤ o) := by
  obtain ⟨lo, hi⟩ := fz
  unfold World.freeze
  rw [if_neg hn]
  refine ⟨rfl, rfl, rfl, Array.size_modify, fun k hk => ?_, (if lo == hi then (0, 0 + n) else (min lo 0, max hi (0 + n))), ?_, fun o ho hf => ?_⟩
  · simp only [Array.getElem?_modify]
    rw [if_neg (Ne.symm hk)]
    rfl
  · simp only [Array.getElem?_modify, if_true]
    rw [show w.drew.heap[q]? = some (.cells cur e (lo, hi)) from hq]
    rfl
  · simp only at hf
    split
    · exact .inr (by simp; omega)
    · rename_i hne
      have : lo ≠ hi := by simpa using hne
      exact .inr (by simp; omega)

theorem u8_of {n : Int} (hn : IntKind.u8.has n) : ((UInt8.ofNat n.toNat).toNat : Int) = n := by
  have : 0 ≤ n ∧ n ≤ 255 := by simpa [IntKind.has, IntKind.min, IntKind.max, IntKind.signed, IntKind.bits] using hn
  simp only [UInt8.toNat_ofNat']
  omega

structure StringDoes (P : Program) (g : Nat) : Prop where
  nil : ∀ (b : Nat) (p : Value) (w : World), w.heap[b]? = some (.cells #[p, .slice none 0 0] lay0.bld (0, 0)) →
    Calls P g #[.pointer (some ⟨b, 0, none⟩)] w fun e w' => e = .returned (.string ⟨#[]⟩) ∧ Below w.heap.size w w'
  noroom : ∀ (b q : Nat) (p : Value) (cur : Array Value) (fz : Nat × Nat) (w : World), w.heap[b]? = some (.cells #[p, .slice (some ⟨q, 0, none⟩) 0 0] lay0.bld (0, 0)) → w.heap[q]? = some (.cells cur lay0.u8 fz) →
    Calls P g #[.pointer (some ⟨b, 0, none⟩)] w fun e w' => e = .returned (.string ⟨#[]⟩) ∧ Below w.heap.size w w'
  room : ∀ (b q cap : Nat) (p : Value) (w : World), cap ≠ 0 → w.heap[b]? = some (.cells #[p, .slice (some ⟨q, 0, none⟩) 0 cap] lay0.bld (0, 0)) →
    Calls P g #[.pointer (some ⟨b, 0, none⟩)] w fun e w' => e = .returned (.string ⟨#[]⟩) ∧ Below w.heap.size w w'
  some : ∀ (b q cap : Nat) (p : Value) (cur : Array Value) (fz : Nat × Nat) (l : List UInt8) (w : World), l ≠ [] → w.heap[b]? = some (.cells #[p, .slice (some ⟨q, 0, none⟩) l.length cap] lay0.bld (0, 0)) →
    w.heap[q]? = some (.cells cur lay0.u8 fz) → l.length ≤ cap → cap ≤ mx → l.length ≤ cur.size → (∀ (j : Nat) (x : UInt8), l[j]? = some x → w.cell? ⟨q, j, none⟩ = some (.int .u8 x.toNat)) →
    Calls P g #[.pointer (some ⟨b, 0, none⟩)] w fun e w' => e = .returned (.string ⟨l.toArray⟩) ∧ w' = w.drew.freeze ⟨q, 0, none⟩ l.length

theorem bstr_ok {g : Nat} {fn : Func} (hf : P.funcs[g]? = some fn) (hn : (fn.name == "runtime.NumGoroutine") = false) (hb : fn.body.isNone = false) (D : StringDoes P g) : Spec.Ok P g (bstr_S R) := by
  intro vs h k r hk w c args wf ra
  unfold bstr_S at hk
  split at hk <;> try (first | cases hk)
  rename_i i
  obtain ⟨a', rfl, r1⟩ := repL1 ra
  have empty : ∀ {w' : World} {h' : Heap} {c' : Cfg}, Rep w' h' c' (.str []) (.string ⟨#[]⟩) := fun {w' h' c'} => rep_str ⟨#[]⟩ rfl (Nat.zero_le _)
  split at hk <;> try (first | cases hk)
  · rename_i hv
    obtain ⟨b, p, d, rfl, g1, g2, g3, g4⟩ := bld_place wf r1 hv
    cases g4
    refine callsTo_of hf hn hb (Calls.mono (D.nil b p w g2) ?_)
    rintro e w' ⟨he, hbl⟩
    exact ⟨_, he, _, h, c, below_wf wf hbl, below_ext hbl, empty, hk⟩
  · rename_i l j hv
    split at hk <;> try (first | cases hk)
    rename_i hj
    obtain ⟨b, p, d, rfl, g1, g2, g3, g4⟩ := bld_place wf r1 hv
    have hi := Heap.at_live hv (by simp)
    have hij : j ≠ i := by rintro rfl; rw [hj] at hv; cases hv
    have hu8 : ∀ x ∈ (l : List Int), IntKind.u8.has x := by
      intro x hx
      cases g4 with
      | sl f hcap hmx hc hr hnil hown =>
        obtain ⟨m, hm⟩ := List.mem_iff_getElem?.1 hx
        exact (hr m 0 x (.int .u8 x) hm rfl).int_inv.2
    have hlen : (bstr l).length = List.length (α := Int) l := bstr_len l
    cases g4 with
    | @sl _ _ _ A cap f hcap hmx hc hr hnil hown =>
      obtain ⟨_, ho⟩ := hown j rfl
      have hcap' : List.length (α := Int) l ≤ cap := hcap
      have hrep : ∀ (w' : World) (h' : Heap) (c' : Cfg), Rep w' h' c' (.str (bstr l)) (.string ⟨(bstr l).toArray⟩) := fun w' h' c' => rep_str _ rfl (by rw [hlen]; exact Nat.le_trans hcap hmx)
      rcases ho hj with ⟨e1, rfl, rfl⟩ | ⟨q, o, cur, e, fz, e1, rfl, e3, e4, e5, e6⟩
      · have hl0 : l = [] := List.eq_nil_of_length_eq_zero (Nat.le_zero.1 hcap)
        subst hl0
        refine callsTo_of hf hn hb (Calls.mono (D.nil b p w g2) ?_)
        rintro e w' ⟨he, hbl⟩
        exact ⟨_, he, _, h, c, below_wf wf hbl, below_ext hbl, hrep _ _ _, hk⟩
      · obtain ⟨rfl, rfl⟩ := e6 rfl
        by_cases hl0 : l = []
        · subst hl0
          by_cases hc0 : cap = 0
          · subst hc0
            refine callsTo_of hf hn hb (Calls.mono (D.noroom b q p cur fz w g2 e4) ?_)
            rintro e w' ⟨he, hbl⟩
            exact ⟨_, he, _, h, c, below_wf wf hbl, below_ext hbl, hrep _ _ _, hk⟩
          · refine callsTo_of hf hn hb (Calls.mono (D.room b q cap p w hc0 g2) ?_)
            rintro e w' ⟨he, hbl⟩
            exact ⟨_, he, _, h, c, below_wf wf hbl, below_ext hbl, hrep _ _ _, hk⟩
        · have hbl : bstr l ≠ [] := fun e => hl0 (List.eq_nil_of_length_eq_zero (hlen.symm.trans (by rw [e]; rfl)))
          have e5' : 0 + cap * 1 ≤ cur.size := e5
          have hcells : ∀ (m : Nat) (x : UInt8), (bstr l)[m]? = some x → w.cell? ⟨q, m, none⟩ = some (.int .u8 x.toNat) := by
            intro m x hx
            obtain ⟨n, hm, rfl⟩ := bstr_get l m x hx
            have hml : m < List.length (α := Int) l := (List.getElem?_eq_some_iff.1 hm).1
            obtain ⟨b', o', hA, hcell, _⟩ := hc m 0 hml (by simp [Ty.sz])
            cases hA
            have hrn := hr m 0 n (.int .u8 n) hm rfl
            rw [hrn.int_inv.1] at hcell
            rw [u8_of hrn.int_inv.2]
            simpa [Ty.sz] using hcell
          have g2' : w.heap[b]? = some (.cells #[p, .slice (some ⟨q, 0, none⟩) (bstr l).length cap] lay0.bld (0, 0)) := by rw [hlen]; exact g2
          refine callsTo_of hf hn hb (Calls.mono (D.some b q cap p cur fz (bstr l) w hbl g2' e4 (by rw [hlen]; exact hcap) hmx (by rw [hlen]; omega) hcells) ?_)
          rintro e w' ⟨he, rfl⟩
          have hne0 : (bstr l).length ≠ 0 := by simpa using hbl
          obtain ⟨f1, f2, f3, f4, f5, fz', f6, f7⟩ := freeze_facts hne0 e4
          obtain ⟨q1, q2⟩ := freeze_wf wf hj e1 e4 f1 f2 f3 f4 f5 f6 (f7 _ (by rw [e3, hlen]; simp [Ty.sz]; exact Nat.le_refl _))
          exact ⟨_, he, _, h, c, q1, q2, hrep _ _ _, hk⟩
end
end Go.Yard

namespace Go.Yard
open Go.RowKit

def isAsc (s : Str) : Bool := s.all fun b => decide (b.toNat < 128)
def itoaS (n : Int) : Str := Go.Lib.itoa n
def repS (s : Str) (n : Int) : Str := Go.Lib.repeatL s n.toNat
def trimL (s cs : Str) : Str := s.dropWhile (cs.contains ·)
def trimR (s cs : Str) : Str := (s.reverse.dropWhile (cs.contains ·)).reverse
def atoiOk (s : Str) : Bool := match Go.Lib.atoiAll s with | .ok _ => true | _ => false
def atoiVal (s : Str) : Int := match Go.Lib.atoiAll s with | .ok v => v | .range => Go.Lib.atoiSat s | _ => 0
def idxByte (s : Str) (c : Int) : Int := Go.Lib.indexByte s c.toNat.toUInt8

section
variable (R : Type)
def itoa_S : Spec R := fun vs h k => match vs with | [.int .i64 n] => k (.str (itoaS n)) h | _ => none
def rep_S : Spec R := fun vs h k => match vs with | [.str s, .int .i64 n] => chk (decide (0 ≤ n) && decide ((s.length : Int) * n ≤ 140737488355328)) (k (.str (repS s n)) h) | _ => none
def trimL_S : Spec R := fun vs h k => match vs with | [.str s, .str cs] => chk (isAsc cs && decide (cs.length < 4294967281)) (k (.str (trimL s cs)) h) | _ => none
def trimR_S : Spec R := fun vs h k => match vs with | [.str s, .str cs] => chk (isAsc cs && decide (cs.length < 4294967281)) (k (.str (trimR s cs)) h) | _ => none
def atoi_S : Spec R := fun vs h k => match vs with
  | [.str s] => chk (decide (s.length ≤ 281474976710656)) (bif atoiOk s then k (.tuple [.int .i64 (atoiVal s), .niliface]) h else k (.tuple [.int .i64 (atoiVal s), .iface]) h)
  | _ => none
def idx_S : Spec R := fun vs h k => match vs with | [.str s, .int .u8 c] => k (.int .i64 (idxByte s c)) h | _ => none
end

section
variable {P : Program} {w w' : World} {h : Heap} {c : Cfg} {R : Type}
open Go.Lib

theorem asc_get {s : Str} (hs : isAsc s = true) : ∀ (j : Nat) (b : UInt8), s[j]? = some b → b.toNat < 128 := by
  intro j b hb
  have := List.all_eq_true.1 hs b (List.mem_of_getElem? hb)
  simpa using this

theorem drop_le (p : UInt8 → Bool) : ∀ s : Str, (s.dropWhile p).length ≤ s.length
  | [] => Nat.le_refl _
  | b :: s => by
    rw [List.dropWhile_cons]
    split
    · have := drop_le p s; simp; omega
    · exact Nat.le_refl _

theorem str_of (l : Str) (h' : l.length ≤ mx) : Rep w h c (.str l) (.string ⟨l.toArray⟩) := rep_str _ rfl h'

theorem ret_mono {g : Nat} {args : Array Value} {Q : Ending → World → Prop} {v : V} (hc : Calls P g args w Q)
    (hq : ∀ e w', Q e w' → ∃ d, e = .returned d ∧ Below w.heap.size w w' ∧ Rep w' h c v d) : Calls P g args w fun e w' => ∃ d, e = .returned d ∧ Below w.heap.size w w' ∧ Rep w' h c v d := Calls.mono hc fun e w' q => hq e w' q

end
end Go.Yard

set_option maxRecDepth 100000
set_option linter.unusedVariables false
namespace Go.Proofs.YtifgegmnngfckaaDoor
open Go Go.Yard Go.RowKit Go.Shelf

section
variable {w w' : World} {h : Heap} {c : Cfg} {R : Type}

theorem below_drewN : ∀ (q : Nat) (a : World), Below w.heap.size w a → Below w.heap.size w (a.drewN q)
  | 0, _, ha => ha
  | q + 1, a, ha => (below_drewN q a ha).drew

theorem below_push (a : World) (os : Array Obj) (ha : Below w.heap.size w a) : Below w.heap.size w { a with heap := a.heap ++ os } :=
  ⟨ha.os, ha.tape, ha.output, by simp; have := ha.size; omega, fun k hk => by
    have := ha.size
    rw [← ha.block k hk]
    exact Array.getElem?_append_left (by omega)⟩

theorem below_bytes (e : TypeId) (t : ByteArray) : Below w.heap.size w (Go.Lib.bytesWorld w e t) := by
  unfold Go.Lib.bytesWorld World.freeze
  have hb : Below w.heap.size w (w.drew.alloc (.cells (Go.Lib.bytesCells w e t) e)) := below_drew_alloc w _
  split
  · exact hb
  · refine ⟨hb.os, hb.tape, hb.output, ?_, fun k hk => ?_⟩
    · have := hb.size; simpa using this
    · rw [← hb.block k hk]
      simp only [Array.getElem?_modify]
      rw [if_neg (by show ¬ w.heap.size = k; omega)]

theorem trimL_le (s cs : Str) : (trimL s cs).length ≤ s.length := drop_le _ s
theorem trimR_le (s cs : Str) : (trimR s cs).length ≤ s.length := by
  unfold trimR
  rw [List.length_reverse]
  exact Nat.le_trans (drop_le _ _) (by simp)
theorem trimL_nil (s : Str) : trimL s [] = s := by
  unfold trimL
  cases s with
  | nil => rfl
  | cons b s => simp
theorem trimR_nil (s : Str) : trimR s [] = s := by
  unfold trimR
  have : (s.reverse.dropWhile fun x => List.contains [] x) = s.reverse := by
    cases s.reverse with
    | nil => rfl
    | cons b s => simp
  rw [this, List.reverse_reverse]
theorem trimL_one (s : Str) (b : UInt8) : trimL s [b] = Go.Lib.trimLeftB s b := by
  unfold trimL Go.Lib.trimLeftB
  congr 1
  funext x
  rw [List.contains_cons]
  show (x == b || false) = _
  rw [Bool.or_false]
theorem trimR_one (s : Str) (b : UInt8) : trimR s [b] = Go.Lib.trimRightB s b := by
  unfold trimR Go.Lib.trimRightB
  congr 2
  funext x
  rw [List.contains_cons]
  show (x == b || false) = _
  rw [Bool.or_false]

theorem itoa_ok : Yard.Spec.Ok Tryd.prog 56 (itoa_S R) := by
  refine hand_plain Tryd.func56 rfl rfl fun vs hp k r hk w c args wf ra => ?_
  unfold itoa_S at hk
  split at hk <;> try (first | cases hk)
  rename_i n
  obtain ⟨a, rfl, r1⟩ := repL1 ra
  obtain ⟨rfl, hn⟩ := r1.int_inv
  have hn' : -9223372036854775808 ≤ n ∧ n ≤ 9223372036854775807 := by simpa [IntKind.has, IntKind.min, IntKind.max, IntKind.signed, IntKind.bits] using hn
  refine ⟨_, hk, ret_mono (Any.strconv_Itoa Tryd.lay171 n hn'.1 hn'.2 w wf.lay.1.2.1) ?_⟩
  rintro e w' ⟨he, q, os, rfl⟩
  refine ⟨_, he, below_push _ os (below_drewN q w (Below.refl _ _)), str_of _ ?_⟩
  have := Go.Lib.itoa_length_le n hn'.1 hn'.2
  unfold itoaS mx
  omega

theorem x72 : Builder.X72 Tryd.prog Tryd.lay105_ren := { sizeBuilder := by kernel_rfl, liesBuilder := by kernel_rfl }
theorem xBuilder : Builder.Extra Tryd.prog Tryd.lay105_ren := { x72 with t5 := Tryd.underlying5, a5 := Tryd.isAgg5, z5 := Tryd.sizeOf5, v5 := Tryd.zeroValue5, infoByte := by kernel_rfl, cellsByte := by kernel_rfl, sizeByte := by kernel_rfl, neB5 := by decide }

theorem rep_ok : Yard.Spec.Ok Tryd.prog 57 (rep_S R) := by
  refine hand_plain Tryd.func57 rfl rfl fun vs hp k r hk w c args wf ra => ?_
  unfold rep_S at hk
  split at hk <;> try (first | cases hk)
  rename_i s n
  obtain ⟨hc, hk⟩ := chk_some hk
  simp only [Bool.and_eq_true, decide_eq_true_eq] at hc
  obtain ⟨h0, hlen⟩ := hc
  obtain ⟨a, b, rfl, r1, r2⟩ := repL2 ra
  obtain ⟨t, rfl, rfl, hl⟩ := r1.str_inv
  obtain ⟨rfl, hn⟩ := r2.int_inv
  obtain ⟨m, rfl⟩ := Int.eq_ofNat_of_zero_le h0
  have hn' : (m : Int) ≤ 9223372036854775807 := by
    have : IntKind.i64.has (m : Int) := hn
    simp [IntKind.has, IntKind.min, IntKind.max, IntKind.signed, IntKind.bits] at this
    omega
  rw [size_data] at hlen
  have hlen' : t.size * m ≤ 140737488355328 := by omega
  have hrl : (Go.Lib.repeatL t.data.toList m).length ≤ 140737488355328 := by
    rw [Go.Lib.repeatL_length, size_data, Nat.mul_comm]; exact hlen'
  refine ⟨_, hk, ret_mono (Any.strings_Repeat Tryd.lay105 xBuilder t m w (by omega) hlen') ?_⟩
  rintro e w' ⟨he, hb⟩
  refine ⟨_, he, hb, ?_⟩
  have e2 : repS t.data.toList (m : Int) = Go.Lib.repeatL t.data.toList m := by unfold repS; simp
  rw [e2]
  exact str_of _ (by unfold mx; omega)

theorem trimL_ok : Yard.Spec.Ok Tryd.prog 61 (trimL_S R) := by
  refine hand_plain Tryd.func61 rfl rfl fun vs hp k r hk w c args wf ra => ?_
  unfold trimL_S at hk
  split at hk <;> try (first | cases hk)
  rename_i s cs
  obtain ⟨hc, hk⟩ := chk_some hk
  simp only [Bool.and_eq_true, decide_eq_true_eq] at hc
  obtain ⟨ha, hcl⟩ := hc
  obtain ⟨a, b, rfl, r1, r2⟩ := repL2 ra
  obtain ⟨t, rfl, rfl, hl⟩ := r1.str_inv
  obtain ⟨u, rfl, rfl, hl2⟩ := r2.str_inv
  rw [size_data] at hcl
  have hasc := asc_get ha
  have hle := trimL_le t.data.toList u.data.toList
  rw [size_data] at hle
  have fin : ∀ (l : Str), l = trimL t.data.toList u.data.toList → ∀ w' : World, Rep w' hp c (.str (trimL t.data.toList u.data.toList)) (.string ⟨l.toArray⟩) := fun l e w' => by
    rw [e]; exact str_of _ (by omega)
  by_cases h0 : t.size = 0 ∨ u.size = 0
  · refine ⟨_, hk, ret_mono (Any.strings_TrimLeft_empty Tryd.lay161 t u w h0) ?_⟩
    rintro e w' ⟨he, rfl⟩
    have e2 : (⟨t.data.toList.toArray⟩ : ByteArray) = t := string_ext rfl
    rw [← e2] at he
    refine ⟨_, he, Below.refl _ _, fin _ ?_ _⟩
    rcases h0 with h0 | h0
    · have : t.data.toList = [] := List.eq_nil_of_length_eq_zero (by rw [size_data]; exact h0)
      rw [this]; unfold trimL; simp
    · have : u.data.toList = [] := List.eq_nil_of_length_eq_zero (by rw [size_data]; exact h0)
      rw [this, trimL_nil]
  · have hu1 : u.size = 1 ∨ 2 ≤ u.size := by omega
    rcases hu1 with hu1 | hu2
    · obtain ⟨b, hb⟩ : ∃ b, u.data.toList = [b] := by
        have hul : u.data.toList.length = 1 := by rw [size_data]; exact hu1
        match hq : u.data.toList, hul with
        | [b], _ => exact ⟨b, rfl⟩
      have eu : u = ⟨#[b]⟩ := string_ext (by rw [hb])
      subst eu
      refine ⟨_, hk, ret_mono (Any.strings_TrimLeft_one Tryd.lay161 t b (hasc 0 b rfl) w) ?_⟩
      rintro e w' ⟨he, rfl⟩
      exact ⟨_, he, Below.refl _ _, fin _ (trimL_one _ _).symm _⟩
    · refine ⟨_, hk, ret_mono (Any.strings_TrimLeft_set Tryd.lay161 Tryd.zeroValue112 (by kernel_rfl) t u w hu2 (by omega) (by omega) hasc) ?_⟩
      rintro e w' ⟨he, rfl⟩
      refine ⟨_, he, ?_, fin _ rfl _⟩
      exact ((Below.refl _ _).alloc (Nat.le_refl _) _).alloc (by simp) _

theorem trimR_ok : Yard.Spec.Ok Tryd.prog 62 (trimR_S R) := by
  refine hand_plain Tryd.func62 rfl rfl fun vs hp k r hk w c args wf ra => ?_
  unfold trimR_S at hk
  split at hk <;> try (first | cases hk)
  rename_i s cs
  obtain ⟨hc, hk⟩ := chk_some hk
  simp only [Bool.and_eq_true, decide_eq_true_eq] at hc
  obtain ⟨ha, hcl⟩ := hc
  obtain ⟨a, b, rfl, r1, r2⟩ := repL2 ra
  obtain ⟨t, rfl, rfl, hl⟩ := r1.str_inv
  obtain ⟨u, rfl, rfl, hl2⟩ := r2.str_inv
  rw [size_data] at hcl
  have hasc := asc_get ha
  have hle := trimR_le t.data.toList u.data.toList
  rw [size_data] at hle
  have fin : ∀ (l : Str), l = trimR t.data.toList u.data.toList → ∀ w' : World, Rep w' hp c (.str (trimR t.data.toList u.data.toList)) (.string ⟨l.toArray⟩) := fun l e w' => by
    rw [e]; exact str_of _ (by omega)
  by_cases h0 : t.size = 0 ∨ u.size = 0
  · refine ⟨_, hk, ret_mono (Any.strings_TrimRight_empty Tryd.lay162 t u w h0) ?_⟩
    rintro e w' ⟨he, rfl⟩
    have e2 : (⟨t.data.toList.toArray⟩ : ByteArray) = t := string_ext rfl
    rw [← e2] at he
    refine ⟨_, he, Below.refl _ _, fin _ ?_ _⟩
    rcases h0 with h0 | h0
    · have : t.data.toList = [] := List.eq_nil_of_length_eq_zero (by rw [size_data]; exact h0)
      rw [this]; unfold trimR; simp
    · have : u.data.toList = [] := List.eq_nil_of_length_eq_zero (by rw [size_data]; exact h0)
      rw [this, trimR_nil]
  · have hu1 : u.size = 1 ∨ 2 ≤ u.size := by omega
    rcases hu1 with hu1 | hu2
    · obtain ⟨b, hb⟩ : ∃ b, u.data.toList = [b] := by
        have hul : u.data.toList.length = 1 := by rw [size_data]; exact hu1
        match hq : u.data.toList, hul with
        | [b], _ => exact ⟨b, rfl⟩
      have eu : u = ⟨#[b]⟩ := string_ext (by rw [hb])
      subst eu
      refine ⟨_, hk, ret_mono (Any.strings_TrimRight_one Tryd.lay162 t b (hasc 0 b rfl) w hl) ?_⟩
      rintro e w' ⟨he, rfl⟩
      exact ⟨_, he, Below.refl _ _, fin _ (trimR_one _ _).symm _⟩
    · refine ⟨_, hk, ret_mono (Any.strings_TrimRight_set Tryd.lay162 Tryd.zeroValue112 (by kernel_rfl) t u w hu2 (by omega) hl (by omega) hasc) ?_⟩
      rintro e w' ⟨he, rfl⟩
      refine ⟨_, he, ?_, fin _ rfl _⟩
      exact ((Below.refl _ _).alloc (Nat.le_refl _) _).alloc (by simp) _

theorem atoi_ok : Yard.Spec.Ok Tryd.prog 63 (atoi_S R) := by
  refine hand_plain Tryd.func63 rfl rfl fun vs hp k r hk w c args wf ra => ?_
  unfold atoi_S at hk
  split at hk <;> try (first | cases hk)
  rename_i s
  obtain ⟨hc, hk⟩ := chk_some hk
  simp only [decide_eq_true_eq] at hc
  obtain ⟨a, rfl, r1⟩ := repL1 ra
  obtain ⟨t, rfl, rfl, hl⟩ := r1.str_inv
  rw [size_data] at hc
  obtain ⟨_, _, ⟨t1, x1, hv1⟩, ⟨t2, x2, hv2⟩⟩ := wf.lay.1
  have hval : IntKind.i64.has (atoiVal t.data.toList) := by
    unfold atoiVal
    split
    · rename_i v hv
      unfold Go.Lib.atoiAll at hv
      split at hv
      · cases hv
      · dsimp only at hv
        split at hv
        · cases hv
        · cases hv
        · rename_i u _
          split at hv
          · cases hv
          · split at hv
            · cases hv
            · cases hv
              split <;> simp [IntKind.has, IntKind.min, IntKind.max, IntKind.signed, IntKind.bits] <;> omega
    · unfold Go.Lib.atoiSat
      split <;> simp [IntKind.has, IntKind.min, IntKind.max, IntKind.signed, IntKind.bits]
    · simp [IntKind.has, IntKind.min, IntKind.max, IntKind.signed, IntKind.bits]
  have two : ∀ (z : Int) (u : V) (w' : World) (x : Value), atoiVal t.data.toList = z → Rep w' hp c u x → Rep w' hp c (.tuple [.int .i64 (atoiVal t.data.toList), u]) (.tuple #[.int .i64 z, x]) := fun z u w' x hz hx => by
    subst hz
    refine .tuple rfl fun j v d hv hd => ?_
    match j, hv, hd with
    | 0, hv, hd => simp at hv hd; subst hv; subst hd; exact .int hval
    | 1, hv, hd => simp at hv hd; subst hv; subst hd; exact hx
    | j + 2, hv, _ => simp at hv
  rcases hA : Go.Lib.atoiAll t.data.toList with v | _ | _
  ·
    have e1 : atoiOk t.data.toList = true := by unfold atoiOk; rw [hA]
    have e2 : atoiVal t.data.toList = v := by unfold atoiVal; rw [hA]
    rw [e1] at hk
    refine ⟨_, hk, ret_mono (Any.strconv_Atoi_ok Tryd.lay172 t (by omega) v hA w) ?_⟩
    rintro e w' ⟨he, hb⟩
    refine ⟨_, he, ?_, two _ _ _ _ e2 .niliface⟩
    rcases hb with rfl | ⟨q, rfl⟩
    · exact Below.refl _ _
    · exact below_bytes _ _
  ·
    have e1 : atoiOk t.data.toList = false := by unfold atoiOk; rw [hA]
    have e2 : atoiVal t.data.toList = 0 := by unfold atoiVal; rw [hA]
    rw [e1] at hk
    refine ⟨_, hk, ret_mono (Any.strconv_Atoi_syntax Tryd.lay172 t hc hA (.iface t1 x1) w hv1 (.inr ⟨_, _, rfl⟩)) ?_⟩
    rintro e w' ⟨q, he, _, _, hb⟩
    exact ⟨_, he, hb, two _ _ _ _ e2 (.iface _ _)⟩
  ·
    have e1 : atoiOk t.data.toList = false := by unfold atoiOk; rw [hA]
    have e2 : atoiVal t.data.toList = Go.Lib.atoiSat t.data.toList := by unfold atoiVal; rw [hA]
    rw [e1] at hk
    refine ⟨_, hk, ret_mono (Any.strconv_Atoi_range Tryd.lay172 t hc hA (.iface t2 x2) w hv2 (.inr ⟨_, _, rfl⟩)) ?_⟩
    rintro e w' ⟨q, he, _, _, hb⟩
    exact ⟨_, he, hb, two _ _ _ _ e2 (.iface _ _)⟩

theorem idx_ok : Yard.Spec.Ok Tryd.prog 85 (idx_S R) := by
  refine hand_plain Tryd.func85 rfl rfl fun vs hp k r hk w c args wf ra => ?_
  unfold idx_S at hk
  split at hk <;> try (first | cases hk)
  rename_i s ch
  obtain ⟨a, b, rfl, r1, r2⟩ := repL2 ra
  obtain ⟨t, rfl, rfl, hl⟩ := r1.str_inv
  obtain ⟨rfl, hn⟩ := r2.int_inv
  have hb : IntKind.i64.has (Go.Lib.indexByte t.data.toList ch.toNat.toUInt8) := by
    have h1 := Go.Lib.indexByte_ge t.data.toList ch.toNat.toUInt8
    have h2 : Go.Lib.indexByte t.data.toList ch.toNat.toUInt8 ≤ t.data.toList.length := by
      generalize t.data.toList = l
      induction l with
      | nil => simp [Go.Lib.indexByte]
      | cons x l ih =>
        have := Go.Lib.indexByte_ge l ch.toNat.toUInt8
        unfold Go.Lib.indexByte
        split
        · simp; omega
        · split
          · simp; omega
          · simp; omega
    rw [size_data] at h2
    unfold mx at hl
    generalize Go.Lib.indexByte t.data.toList ch.toNat.toUInt8 = z at h1 h2
    simp [IntKind.has, IntKind.min, IntKind.max, IntKind.signed, IntKind.bits]; omega
  refine ⟨_, hk, ret_mono (Any.strings_IndexByte Tryd.lay137 t ch w) ?_⟩
  rintro e w' ⟨he, rfl⟩
  exact ⟨_, he, Below.refl _ _, .int hb⟩

theorem bccL : Lays.n240 Tryd.prog Tryd.lay105_ren := { Tryd.lay105 with }
theorem bcc_is : Yard.Spec.Ok Tryd.prog 72 (bcc_S R) :=
  bcc_ok Tryd.func72 rfl rfl (fun b w h0 hs hf => Any.Builder_copyCheck_fresh bccL x72 b w h0 hs hf) (fun b w h0 => Any.Builder_copyCheck_used bccL x72 b w h0)

theorem bstrL : Lays.n169 Tryd.prog Tryd.lay169_ren := Tryd.lay169
theorem xBuilder169 : Builder.Extra Tryd.prog Tryd.lay169_ren := { sizeBuilder := by kernel_rfl, liesBuilder := by kernel_rfl, t5 := Tryd.underlying5, a5 := Tryd.isAgg5, z5 := Tryd.sizeOf5, v5 := Tryd.zeroValue5, infoByte := by kernel_rfl, cellsByte := by kernel_rfl, sizeByte := by kernel_rfl, neB5 := by decide }

set_option maxHeartbeats 1000000 in
theorem string_some (b q cap : Nat) (p : Value) (cur : Array Value) (fz : Nat × Nat) (l : List UInt8) (w : World) (h0 : l ≠ []) (hbk : w.heap[b]? = some (.cells #[p, .slice (some ⟨q, 0, none⟩) l.length cap] lay0.bld (0, 0)))
    (hq : w.heap[q]? = some (.cells cur lay0.u8 fz)) (hnc : l.length ≤ cap) (hcm : cap ≤ mx) (hsz : l.length ≤ cur.size) (hcell : ∀ (j : Nat) (x : UInt8), l[j]? = some x → w.cell? ⟨q, j, none⟩ = some (.int .u8 x.toNat)) :
    Calls Tryd.prog 49 #[.pointer (some ⟨b, 0, none⟩)] w fun e w' => e = .returned (.string ⟨l.toArray⟩) ∧ w' = w.drew.freeze ⟨q, 0, none⟩ l.length := by
  have hl0 : l.length ≠ 0 := by simpa using h0
  have L := bstrL
  have X := xBuilder169
  have c1 : w.drew.cell? ⟨b, 1, none⟩ = some (.slice (some ⟨q, 0, none⟩) l.length cap) := by
    have h1 : w.drew.heap[b]? = some (.cells #[p, .slice (some ⟨q, 0, none⟩) l.length cap] lay0.bld (0, 0)) := hbk
    rw [Lib.cell_of_heap h1]; rfl
  have hSD : (Builtin.unsafeSliceData_ #[36] 94 #[.slice (some ⟨q, 0, none⟩) l.length cap]).run Tryd.prog w.drew = .ok (.pointer (some ⟨q, 0, none⟩)) w.drew :=
    Lib.run_unsafeSliceData_row _ _ _ _ _ _ (by omega)
  have hUS : (Builtin.unsafeString_ #[94, 3] 9 #[.pointer (some ⟨q, 0, none⟩), .int .i64 l.length]).run Tryd.prog w.drew = .ok (.string ⟨l.toArray⟩) (w.drew.freeze ⟨q, 0, none⟩ l.length) := by
    refine Lib.run_unsafeString_row w.drew 94 3 9 5 L.t127 X.cellsByte q cur.size (by have hq' : w.drew.heap[q]? = some (.cells cur 5 fz) := hq; simp [World.shape?, hq']) l h0 hsz (by unfold mx at hcm; omega) ?_
    intro j x hx
    have := hcell j x hx
    rw [Yard.add_off, Nat.zero_add]
    exact this
  have mixed := L.mixed
  have t72 := L.t72; have a72 := L.a72; have z72 := L.z72; have v72 := L.v72; have u72 := run_underlying L.t72
  have t70 := L.t70; have a70 := L.a70; have z70 := L.z70; have v70 := L.v70; have u70 := run_underlying L.t70
  have t37 := L.t37; have a37 := L.a37; have z37 := L.z37; have v37 := L.v37; have u37 := run_underlying L.t37
  have t127 := L.t127; have a127 := L.a127; have z127 := L.z127; have v127 := L.v127; have u127 := run_underlying L.t127
  have t3 := L.t3; have a3 := L.a3; have z3 := L.z3; have v3 := L.v3; have u3 := run_underlying L.t3
  have t9 := L.t9; have a9 := L.a9; have z9 := L.z9; have v9 := L.v9; have u9 := run_underlying L.t9
  have t5 := X.t5; have a5 := X.a5; have z5 := X.z5; have v5 := X.v5; have u5 := run_underlying X.t5
  go_enter Tryd.func49, Tryd.ntmps49
  go_wp2
  go_region_o
  all_goals (go_wp2; go_ret; exact ⟨rfl, rfl⟩)

set_option maxHeartbeats 2000000 in
theorem string_noroom (b q : Nat) (p : Value) (cur : Array Value) (fz : Nat × Nat) (w : World) (hbk : w.heap[b]? = some (.cells #[p, .slice (some ⟨q, 0, none⟩) 0 0] lay0.bld (0, 0))) (hq : w.heap[q]? = some (.cells cur lay0.u8 fz)) :
    Calls Tryd.prog 49 #[.pointer (some ⟨b, 0, none⟩)] w fun e w' => e = .returned (.string ⟨#[]⟩) ∧ Below w.heap.size w w' := by
  have L := bstrL
  have X := xBuilder169
  have hUS : ∀ (W : World) (q : Option Addr), (Builtin.unsafeString_ #[94, 3] 9 #[.pointer q, .int .i64 0]).run Tryd.prog W = .ok (.string .empty) W := fun W q => Lib.run_unsafeString_none W _ _ _ q
  have hlt : b < w.heap.size := by
    rcases Nat.lt_or_ge b w.heap.size with h' | h'
    · exact h'
    · simp [Array.getElem?_eq_none h'] at hbk
  have c1 : w.drew.cell? ⟨b, 1, none⟩ = some (.slice (some ⟨q, 0, none⟩) 0 0) := by
    have : w.drew.heap[b]? = some (.cells #[p, .slice (some ⟨q, 0, none⟩) 0 0] lay0.bld (0, 0)) := hbk
    rw [Lib.cell_of_heap this]; rfl
  have hSD : (Builtin.unsafeSliceData_ #[36] 94 #[.slice (some ⟨q, 0, none⟩) 0 0]).run Tryd.prog w.drew = .ok (.pointer (some ⟨w.drew.heap.size, 0, none⟩)) (w.drew.alloc (.view ⟨q, 0, none⟩ 5)) :=
    Lib.run_unsafeSliceData_zero w.drew _ _ 5 L.t127 ⟨q, 0, none⟩ 0 (5, cur.size) (by have hq' : w.drew.heap[q]? = some (.cells cur 5 fz) := hq; simp [World.shape?, hq'])
  have c2 : (w.drew.alloc (.view ⟨q, 0, none⟩ 5)).cell? ⟨b, 1, none⟩ = some (.slice (some ⟨q, 0, none⟩) 0 0) := by
    have : (w.drew.alloc (.view ⟨q, 0, none⟩ 5)).heap[b]? = _ := (Lib.alloc_old w.drew _ b hlt).trans hbk
    rw [Lib.cell_of_heap this]; rfl
  have c3 : (w.alloc (.view ⟨q, 0, none⟩ 5)).drew.cell? ⟨b, 1, none⟩ = some (.slice (some ⟨q, 0, none⟩) 0 0) := c2
  have c0 : w.cell? ⟨b, 1, none⟩ = some (.slice (some ⟨q, 0, none⟩) 0 0) := c1
  have mixed := L.mixed
  have t72 := L.t72; have a72 := L.a72; have z72 := L.z72; have v72 := L.v72; have u72 := run_underlying L.t72
  have t70 := L.t70; have a70 := L.a70; have z70 := L.z70; have v70 := L.v70; have u70 := run_underlying L.t70
  have t37 := L.t37; have a37 := L.a37; have z37 := L.z37; have v37 := L.v37; have u37 := run_underlying L.t37
  have t127 := L.t127; have a127 := L.a127; have z127 := L.z127; have v127 := L.v127; have u127 := run_underlying L.t127
  have t3 := L.t3; have a3 := L.a3; have z3 := L.z3; have v3 := L.v3; have u3 := run_underlying L.t3
  have t9 := L.t9; have a9 := L.a9; have z9 := L.z9; have v9 := L.v9; have u9 := run_underlying L.t9
  have t5 := X.t5; have a5 := X.a5; have z5 := X.z5; have v5 := X.v5; have u5 := run_underlying X.t5
  go_enter Tryd.func49, Tryd.ntmps49
  go_wp2
  go_region_o
  all_goals (go_wp2; go_ret; exact ⟨rfl, (Below.drew (Below.refl _ w)).alloc (Nat.le_refl _) _⟩)

theorem string_does : StringDoes Tryd.prog 49 where
  nil := fun b p w hbk => Any.Builder_String_nil bstrL xBuilder169 w.heap.size b p w hbk
  noroom := string_noroom
  room := fun b q cap p w hc hbk => Any.Builder_String_room bstrL xBuilder169 w.heap.size b q cap p w hc hbk
  some := string_some

theorem bstr_is : Yard.Spec.Ok Tryd.prog 49 (bstr_S R) := bstr_ok Tryd.func49 rfl rfl string_does

end
end Go.Proofs.YtifgegmnngfckaaDoor

/-
  Functions of the program as pure Lean functions, and the ties; printed by wip/tools/emit.py.
-/
set_option maxRecDepth 100000
set_option linter.unusedVariables false
namespace Go.Proofs.YtifgegmnngfckaaDoor
open Go Go.Yard

/-! ### (*strings.Builder).WriteByte -/
abbrev strings_Builder_WriteByte_b66c_ty (R : Type) : Type := Int → ((List Int) → Option R) → Option R
abbrev strings_Builder_WriteByte_b66c_p : List Pat := [.leaf (.ptr 0 0), .leaf (.int .u8)]
abbrev strings_Builder_WriteByte_b66c_q : List HPat := [.bld (.nilsl)]
noncomputable def strings_Builder_WriteByte_b66c_rr {R : Type} (fn : strings_Builder_WriteByte_b66c_ty R) : Pat.dens strings_Builder_WriteByte_b66c_p → HPat.dens strings_Builder_WriteByte_b66c_q → (V → Heap → Option R) → Option R := fun x y k => fn x.2.1 (fun q0 => k (.niliface) [.bld (.sl (.int .u8) q0 (.own 1)), .tok])
noncomputable def strings_Builder_WriteByte_b66c_E (R : Type) : Env R := fun i => match i with
  | 72 => some (false, (bcc_S R))
  | _ => none
theorem strings_Builder_WriteByte_b66c_EOk (R : Type) : EOk Tryd.prog (strings_Builder_WriteByte_b66c_E R) := by
  intro i b sp h
  unfold strings_Builder_WriteByte_b66c_E at h
  split at h
  · cases h; exact ⟨(bcc_is), fun _ h => nomatch h⟩
  · cases h

noncomputable def strings_Builder_WriteByte_b66c_T (R : Type) : Nat → Option (Hint × LSpec R) := fun i => match i with
  | _ => none

noncomputable def strings_Builder_WriteByte_b66c_X {R : Type} (x1 : Int) (k0 : (List Int) → Option R) : Option R :=
  k0 ([x1] : List Int)
noncomputable def strings_Builder_WriteByte_b66c {R : Type} : strings_Builder_WriteByte_b66c_ty R := fun x1 k0 => strings_Builder_WriteByte_b66c_X x1 k0
theorem strings_Builder_WriteByte_b66c_ok {R : Type} (x1 : Int) (k : V → Heap → Option R) : funK tt (strings_Builder_WriteByte_b66c_E R) (strings_Builder_WriteByte_b66c_T R) false Tryd.f45 (codeOf Tryd.f45) [.ptr 0 0, .int .u8 x1] [.bld (.nilsl)] k =
    strings_Builder_WriteByte_b66c_X x1 (fun q0 => k (.niliface) [.bld (.sl (.int .u8) q0 (.own 1)), .tok]) := by kernel_rfl
theorem strings_Builder_WriteByte_b66c_loops (R : Type) : ∀ a ∈ loopsOf (codeOf Tryd.f45), LoopOk tt (strings_Builder_WriteByte_b66c_E R) (strings_Builder_WriteByte_b66c_T R) 1 a := by
  refine loops_ok 0 (by kernel_rfl) fun i hi => ?_
  omega
theorem strings_Builder_WriteByte_b66c_S_ok (R : Type) (other : Yard.Spec R) (ho : Yard.Spec.Ok Tryd.prog 45 other) : Yard.Spec.Ok Tryd.prog 45 (specBy strings_Builder_WriteByte_b66c_p strings_Builder_WriteByte_b66c_q (strings_Builder_WriteByte_b66c_rr strings_Builder_WriteByte_b66c) other) :=
  specBy_ok ho (funK_sound TT mixed (strings_Builder_WriteByte_b66c_EOk R) (keep := false) rfl rfl rfl rfl 1 (strings_Builder_WriteByte_b66c_loops R)) fun (x : Pat.dens strings_Builder_WriteByte_b66c_p) (y : HPat.dens strings_Builder_WriteByte_b66c_q) k => strings_Builder_WriteByte_b66c_ok x.2.1 k

/-! ### (*strings.Builder).WriteString -/
abbrev strings_Builder_WriteString_df1e_ty (R : Type) : Type := Str → (List Int) → (Int → (List Int) → Option R) → Option R
abbrev strings_Builder_WriteString_df1e_p : List Pat := [.leaf (.ptr 0 0), .leaf (.str)]
abbrev strings_Builder_WriteString_df1e_q : List HPat := [.bld (.slo (.int .u8) 1), .tok]
noncomputable def strings_Builder_WriteString_df1e_rr {R : Type} (fn : strings_Builder_WriteString_df1e_ty R) : Pat.dens strings_Builder_WriteString_df1e_p → HPat.dens strings_Builder_WriteString_df1e_q → (V → Heap → Option R) → Option R := fun x y k => fn x.2.1 y.1 (fun q0 q1 => k (.tuple [.int .i64 q0, .niliface]) [.bld (.sl (.int .u8) q1 (.own 2)), .dead, .tok])
noncomputable def strings_Builder_WriteString_df1e_E (R : Type) : Env R := fun i => match i with
  | 72 => some (false, (bcc_S R))
  | _ => none
theorem strings_Builder_WriteString_df1e_EOk (R : Type) : EOk Tryd.prog (strings_Builder_WriteString_df1e_E R) := by
  intro i b sp h
  unfold strings_Builder_WriteString_df1e_E at h
  split at h
  · cases h; exact ⟨(bcc_is), fun _ h => nomatch h⟩
  · cases h

noncomputable def strings_Builder_WriteString_df1e_T (R : Type) : Nat → Option (Hint × LSpec R) := fun i => match i with
  | _ => none

noncomputable def strings_Builder_WriteString_df1e_X {R : Type} (x1 : Str) (x2 : List Int) (k0 : Int → (List Int) → Option R) : Option R :=
  chk (decide ((x2.length + (bytesN x1).length) * 1 ≤ 140737488355328)) (k0 (x1.length : Int) ((x2 : List Int) ++ ((bytesN x1) : List Int)))
noncomputable def strings_Builder_WriteString_df1e {R : Type} : strings_Builder_WriteString_df1e_ty R := fun x1 x2 k0 => strings_Builder_WriteString_df1e_X x1 x2 k0
theorem strings_Builder_WriteString_df1e_ok {R : Type} (x1 : Str) (x2 : List Int) (k : V → Heap → Option R) : funK tt (strings_Builder_WriteString_df1e_E R) (strings_Builder_WriteString_df1e_T R) false Tryd.f47 (codeOf Tryd.f47) [.ptr 0 0, .str x1] [.bld (.sl (.int .u8) x2 (.own 1)), .tok] k =
    strings_Builder_WriteString_df1e_X x1 x2 (fun q0 q1 => k (.tuple [.int .i64 q0, .niliface]) [.bld (.sl (.int .u8) q1 (.own 2)), .dead, .tok]) := by kernel_rfl
theorem strings_Builder_WriteString_df1e_loops (R : Type) : ∀ a ∈ loopsOf (codeOf Tryd.f47), LoopOk tt (strings_Builder_WriteString_df1e_E R) (strings_Builder_WriteString_df1e_T R) 2 a := by
  refine loops_ok 0 (by kernel_rfl) fun i hi => ?_
  omega
theorem strings_Builder_WriteString_df1e_S_ok (R : Type) (other : Yard.Spec R) (ho : Yard.Spec.Ok Tryd.prog 47 other) : Yard.Spec.Ok Tryd.prog 47 (specBy strings_Builder_WriteString_df1e_p strings_Builder_WriteString_df1e_q (strings_Builder_WriteString_df1e_rr strings_Builder_WriteString_df1e) other) :=
  specBy_ok ho (funK_sound TT mixed (strings_Builder_WriteString_df1e_EOk R) (keep := false) rfl rfl rfl rfl 2 (strings_Builder_WriteString_df1e_loops R)) fun (x : Pat.dens strings_Builder_WriteString_df1e_p) (y : HPat.dens strings_Builder_WriteString_df1e_q) k => strings_Builder_WriteString_df1e_ok x.2.1 y.1 k

end Go.Proofs.YtifgegmnngfckaaDoor

/-
  Functions of the program as pure Lean functions, and the ties; printed by wip/tools/emit.py.
-/
set_option maxRecDepth 100000
set_option linter.unusedVariables false
namespace Go.Proofs.YtifgegmnngfckaaDoor
open Go Go.Yard

end Go.Proofs.YtifgegmnngfckaaDoor

/-
  Functions of the program as pure Lean functions, and the ties; printed by wip/tools/emit.py.
-/
set_option maxRecDepth 100000
set_option linter.unusedVariables false
namespace Go.Proofs.YtifgegmnngfckaaDoor
open Go Go.Yard

end Go.Proofs.YtifgegmnngfckaaDoor

/-
  Functions of the program as pure Lean functions, and the ties; printed by wip/tools/emit.py.
-/
set_option maxRecDepth 100000
set_option linter.unusedVariables false
namespace Go.Proofs.YtifgegmnngfckaaDoor
open Go Go.Yard

end Go.Proofs.YtifgegmnngfckaaDoor

/-
  Functions of the program as pure Lean functions, and the ties; printed by wip/tools/emit.py.
-/
set_option maxRecDepth 100000
set_option linter.unusedVariables false
namespace Go.Proofs.YtifgegmnngfckaaDoor
open Go Go.Yard

end Go.Proofs.YtifgegmnngfckaaDoor

/-
  Functions of the program as pure Lean functions, and the ties; printed by wip/tools/emit.py.
-/
set_option maxRecDepth 100000
set_option linter.unusedVariables false
namespace Go.Proofs.YtifgegmnngfckaaDoor
open Go Go.Yard

end Go.Proofs.YtifgegmnngfckaaDoor

/-
  Functions of the program as pure Lean functions, and the ties; printed by wip/tools/emit.py.
-/
set_option maxRecDepth 100000
set_option linter.unusedVariables false
namespace Go.Proofs.YtifgegmnngfckaaDoor
open Go Go.Yard

/-! ### (*humpyard/decimal.reader).sign -/
abbrev decimal_reader_sign_e74a_ty (R : Type) : Type := Str → Str → (Int → Str → Option R) → Option R
abbrev decimal_reader_sign_e74a_p : List Pat := [.leaf (.ptr 0 0), .leaf (.str)]
abbrev decimal_reader_sign_e74a_q : List HPat := [.cells [.str]]
noncomputable def decimal_reader_sign_e74a_rr {R : Type} (fn : decimal_reader_sign_e74a_ty R) : Pat.dens decimal_reader_sign_e74a_p → HPat.dens decimal_reader_sign_e74a_q → (V → Heap → Option R) → Option R := fun x y k => fn x.2.1 y.1.1 (fun q0 q1 => k (.int .u8 q0) [.cells [.str q1]])
noncomputable def decimal_reader_sign_e74a_E (R : Type) : Env R := fun i => match i with
  | 85 => some (true, (idx_S R))
  | _ => none
theorem decimal_reader_sign_e74a_EOk (R : Type) : EOk Tryd.prog (decimal_reader_sign_e74a_E R) := by
  intro i b sp h
  unfold decimal_reader_sign_e74a_E at h
  split at h
  · cases h; exact ⟨(idx_ok), fun h => nomatch h⟩
  · cases h

noncomputable def decimal_reader_sign_e74a_T (R : Type) : Nat → Option (Hint × LSpec R) := fun i => match i with
  | _ => none

noncomputable def decimal_reader_sign_e74a_X {R : Type} (x1 : Str) (x2 : Str) (k0 : Int → Str → Option R) : Option R :=
  bif (x2 == ([] : Str)) then (k0 0 x2) else (chk (decide ((0 : Int) < x2.length)) (bif (decide ((idxByte x1 ((x2.getD 0 0).toNat : Int)) < (0 : Int))) then (k0 0 x2) else (chk (decide ((0 : Int) < x2.length)) (chk (decide ((0 : Int) ≤ (x2.length : Int)) && decide ((x2.length : Int) ≤ x2.length)) (chk (decide ((1 : Int) ≤ (x2.length : Int))) (k0 ((x2.getD 0 0).toNat : Int) ((x2.drop 1).take ((x2.length : Int).toNat - 1))))))))
noncomputable def decimal_reader_sign_e74a {R : Type} : decimal_reader_sign_e74a_ty R := fun x1 x2 k0 => decimal_reader_sign_e74a_X x1 x2 k0
theorem decimal_reader_sign_e74a_ok {R : Type} (x1 : Str) (x2 : Str) (k : V → Heap → Option R) : funK tt (decimal_reader_sign_e74a_E R) (decimal_reader_sign_e74a_T R) false Tryd.f58 (codeOf Tryd.f58) [.ptr 0 0, .str x1] [.cells [.str x2]] k =
    decimal_reader_sign_e74a_X x1 x2 (fun q0 q1 => k (.int .u8 q0) [.cells [.str q1]]) := by kernel_rfl
theorem decimal_reader_sign_e74a_loops (R : Type) : ∀ a ∈ loopsOf (codeOf Tryd.f58), LoopOk tt (decimal_reader_sign_e74a_E R) (decimal_reader_sign_e74a_T R) 1 a := by
  refine loops_ok 0 (by kernel_rfl) fun i hi => ?_
  omega
theorem decimal_reader_sign_e74a_S_ok (R : Type) (other : Yard.Spec R) (ho : Yard.Spec.Ok Tryd.prog 58 other) : Yard.Spec.Ok Tryd.prog 58 (specBy decimal_reader_sign_e74a_p decimal_reader_sign_e74a_q (decimal_reader_sign_e74a_rr decimal_reader_sign_e74a) other) :=
  specBy_ok ho (funK_sound TT mixed (decimal_reader_sign_e74a_EOk R) (keep := false) rfl rfl rfl rfl 1 (decimal_reader_sign_e74a_loops R)) fun (x : Pat.dens decimal_reader_sign_e74a_p) (y : HPat.dens decimal_reader_sign_e74a_q) k => decimal_reader_sign_e74a_ok x.2.1 y.1.1 k

/-! ### (*humpyard/decimal.reader).digits -/
abbrev decimal_reader_digits_abbd_ty (R : Type) : Type := Str → (Str → Str → Option R) → Option R
abbrev decimal_reader_digits_abbd_p : List Pat := [.leaf (.ptr 0 0)]
abbrev decimal_reader_digits_abbd_q : List HPat := [.cells [.str]]
noncomputable def decimal_reader_digits_abbd_rr {R : Type} (fn : decimal_reader_digits_abbd_ty R) : Pat.dens decimal_reader_digits_abbd_p → HPat.dens decimal_reader_digits_abbd_q → (V → Heap → Option R) → Option R := fun x y k => fn y.1.1 (fun q0 q1 => k (.str q0) [.cells [.str q1]])
noncomputable def decimal_reader_digits_abbd_E (R : Type) : Env R := fun i => match i with
  | 61 => some (true, (trimL_S R))
  | _ => none
theorem decimal_reader_digits_abbd_EOk (R : Type) : EOk Tryd.prog (decimal_reader_digits_abbd_E R) := by
  intro i b sp h
  unfold decimal_reader_digits_abbd_E at h
  split at h
  · cases h; exact ⟨(trimL_ok), fun h => nomatch h⟩
  · cases h

noncomputable def decimal_reader_digits_abbd_T (R : Type) : Nat → Option (Hint × LSpec R) := fun i => match i with
  | _ => none

noncomputable def decimal_reader_digits_abbd_X {R : Type} (x1 : Str) (k0 : Str → Str → Option R) : Option R :=
  chk (isAsc ([48, 49, 50, 51, 52, 53, 54, 55, 56, 57] : Str) && decide (([48, 49, 50, 51, 52, 53, 54, 55, 56, 57] : Str).length < 4294967281)) (chk (decide ((0 : Int) ≤ (IntKind.i64.wrap ((x1.length : Int) - ((trimL x1 ([48, 49, 50, 51, 52, 53, 54, 55, 56, 57] : Str)).length : Int)))) && decide ((IntKind.i64.wrap ((x1.length : Int) - ((trimL x1 ([48, 49, 50, 51, 52, 53, 54, 55, 56, 57] : Str)).length : Int))) ≤ x1.length)) (chk (decide ((0 : Int) ≤ (IntKind.i64.wrap ((x1.length : Int) - ((trimL x1 ([48, 49, 50, 51, 52, 53, 54, 55, 56, 57] : Str)).length : Int))))) (k0 ((x1.drop 0).take ((IntKind.i64.wrap ((x1.length : Int) - ((trimL x1 ([48, 49, 50, 51, 52, 53, 54, 55, 56, 57] : Str)).length : Int))).toNat - 0)) (trimL x1 ([48, 49, 50, 51, 52, 53, 54, 55, 56, 57] : Str)))))
noncomputable def decimal_reader_digits_abbd {R : Type} : decimal_reader_digits_abbd_ty R := fun x1 k0 => decimal_reader_digits_abbd_X x1 k0
theorem decimal_reader_digits_abbd_ok {R : Type} (x1 : Str) (k : V → Heap → Option R) : funK tt (decimal_reader_digits_abbd_E R) (decimal_reader_digits_abbd_T R) false Tryd.f59 (codeOf Tryd.f59) [.ptr 0 0] [.cells [.str x1]] k =
    decimal_reader_digits_abbd_X x1 (fun q0 q1 => k (.str q0) [.cells [.str q1]]) := by kernel_rfl
theorem decimal_reader_digits_abbd_loops (R : Type) : ∀ a ∈ loopsOf (codeOf Tryd.f59), LoopOk tt (decimal_reader_digits_abbd_E R) (decimal_reader_digits_abbd_T R) 1 a := by
  refine loops_ok 0 (by kernel_rfl) fun i hi => ?_
  omega
theorem decimal_reader_digits_abbd_S_ok (R : Type) (other : Yard.Spec R) (ho : Yard.Spec.Ok Tryd.prog 59 other) : Yard.Spec.Ok Tryd.prog 59 (specBy decimal_reader_digits_abbd_p decimal_reader_digits_abbd_q (decimal_reader_digits_abbd_rr decimal_reader_digits_abbd) other) :=
  specBy_ok ho (funK_sound TT mixed (decimal_reader_digits_abbd_EOk R) (keep := false) rfl rfl rfl rfl 1 (decimal_reader_digits_abbd_loops R)) fun (x : Pat.dens decimal_reader_digits_abbd_p) (y : HPat.dens decimal_reader_digits_abbd_q) k => decimal_reader_digits_abbd_ok y.1.1 k

/-! ### (*humpyard/decimal.reader).exponent -/
abbrev decimal_reader_exponent_abbd_ty (R : Type) : Type := Str → (Int → Bool → Str → Option R) → Option R
abbrev decimal_reader_exponent_abbd_p : List Pat := [.leaf (.ptr 0 0)]
abbrev decimal_reader_exponent_abbd_q : List HPat := [.cells [.str]]
noncomputable def decimal_reader_exponent_abbd_rr {R : Type} (fn : decimal_reader_exponent_abbd_ty R) : Pat.dens decimal_reader_exponent_abbd_p → HPat.dens decimal_reader_exponent_abbd_q → (V → Heap → Option R) → Option R := fun x y k => fn y.1.1 (fun q0 q1 q2 => k (.tuple [.int .i64 q0, .bool q1]) [.cells [.str q2]])
noncomputable def decimal_reader_exponent_abbd_E (R : Type) (decimal_reader_sign_e74a : decimal_reader_sign_e74a_ty R) (decimal_reader_digits_abbd : decimal_reader_digits_abbd_ty R) : Env R := fun i => match i with
  | 58 => some (false, (specBy decimal_reader_sign_e74a_p decimal_reader_sign_e74a_q (decimal_reader_sign_e74a_rr decimal_reader_sign_e74a) specNo))
  | 59 => some (false, (specBy decimal_reader_digits_abbd_p decimal_reader_digits_abbd_q (decimal_reader_digits_abbd_rr decimal_reader_digits_abbd) specNo))
  | 63 => some (true, (atoi_S R))
  | _ => none
theorem decimal_reader_exponent_abbd_EOk (R : Type) : EOk Tryd.prog (decimal_reader_exponent_abbd_E R decimal_reader_sign_e74a decimal_reader_digits_abbd) := by
  intro i b sp h
  unfold decimal_reader_exponent_abbd_E at h
  split at h
  · cases h; exact ⟨(decimal_reader_sign_e74a_S_ok R _ (specNo_ok _)), fun _ h => nomatch h⟩
  · cases h; exact ⟨(decimal_reader_digits_abbd_S_ok R _ (specNo_ok _)), fun _ h => nomatch h⟩
  · cases h; exact ⟨(atoi_ok), fun h => nomatch h⟩
  · cases h

noncomputable def decimal_reader_exponent_abbd_T (R : Type) : Nat → Option (Hint × LSpec R) := fun i => match i with
  | _ => none

noncomputable def decimal_reader_exponent_abbd_X {R : Type} (decimal_reader_sign_e74a : decimal_reader_sign_e74a_ty R) (decimal_reader_digits_abbd : decimal_reader_digits_abbd_ty R) (x1 : Str) (k0 : Int → Bool → Str → Option R) : Option R :=
  decimal_reader_sign_e74a ([43, 45] : Str) x1 (fun y2 y3 => decimal_reader_digits_abbd y3 (fun y4 y5 => chk (decide (y4.length ≤ 281474976710656)) (bif atoiOk y4 then (bif (decide ((atoiVal y4) > (1000000 : Int))) then (bif (y2 == 45) then (k0 (-1000000) (!(y4 == ([] : Str))) y5) else (k0 1000000 (!(y4 == ([] : Str))) y5)) else (bif (y2 == 45) then (k0 (IntKind.i64.wrap (0 - (atoiVal y4))) (!(y4 == ([] : Str))) y5) else (k0 (atoiVal y4) (!(y4 == ([] : Str))) y5))) else (bif (!(y4 == ([] : Str))) then (bif (y2 == 45) then (k0 (-1000000) (!(y4 == ([] : Str))) y5) else (k0 1000000 (!(y4 == ([] : Str))) y5)) else (bif (decide ((atoiVal y4) > (1000000 : Int))) then (bif (y2 == 45) then (k0 (-1000000) (!(y4 == ([] : Str))) y5) else (k0 1000000 (!(y4 == ([] : Str))) y5)) else (bif (y2 == 45) then (k0 (IntKind.i64.wrap (0 - (atoiVal y4))) (!(y4 == ([] : Str))) y5) else (k0 (atoiVal y4) (!(y4 == ([] : Str))) y5)))))))
noncomputable def decimal_reader_exponent_abbd {R : Type} : decimal_reader_exponent_abbd_ty R := fun x1 k0 => decimal_reader_exponent_abbd_X decimal_reader_sign_e74a decimal_reader_digits_abbd x1 k0
theorem decimal_reader_exponent_abbd_ok {R : Type} (decimal_reader_sign_e74a : decimal_reader_sign_e74a_ty R) (decimal_reader_digits_abbd : decimal_reader_digits_abbd_ty R) (x1 : Str) (k : V → Heap → Option R) : funK tt (decimal_reader_exponent_abbd_E R decimal_reader_sign_e74a decimal_reader_digits_abbd) (decimal_reader_exponent_abbd_T R) false Tryd.f60 (codeOf Tryd.f60) [.ptr 0 0] [.cells [.str x1]] k =
    decimal_reader_exponent_abbd_X decimal_reader_sign_e74a decimal_reader_digits_abbd x1 (fun q0 q1 q2 => k (.tuple [.int .i64 q0, .bool q1]) [.cells [.str q2]]) := by kernel_rfl
theorem decimal_reader_exponent_abbd_loops (R : Type) : ∀ a ∈ loopsOf (codeOf Tryd.f60), LoopOk tt (decimal_reader_exponent_abbd_E R decimal_reader_sign_e74a decimal_reader_digits_abbd) (decimal_reader_exponent_abbd_T R) 1 a := by
  refine loops_ok 0 (by kernel_rfl) fun i hi => ?_
  omega
theorem decimal_reader_exponent_abbd_S_ok (R : Type) (other : Yard.Spec R) (ho : Yard.Spec.Ok Tryd.prog 60 other) : Yard.Spec.Ok Tryd.prog 60 (specBy decimal_reader_exponent_abbd_p decimal_reader_exponent_abbd_q (decimal_reader_exponent_abbd_rr decimal_reader_exponent_abbd) other) :=
  specBy_ok ho (funK_sound TT mixed (decimal_reader_exponent_abbd_EOk R) (keep := false) rfl rfl rfl rfl 1 (decimal_reader_exponent_abbd_loops R)) fun (x : Pat.dens decimal_reader_exponent_abbd_p) (y : HPat.dens decimal_reader_exponent_abbd_q) k => decimal_reader_exponent_abbd_ok decimal_reader_sign_e74a decimal_reader_digits_abbd y.1.1 k

/-! ### humpyard/decimal.within[int] -/
abbrev decimal_within_int_ty (R : Type) : Type := Int → Int → Int → (Bool → Option R) → Option R
abbrev decimal_within_int_p : List Pat := [.leaf (.int .i64), .leaf (.int .i64), .leaf (.int .i64)]
abbrev decimal_within_int_q : List HPat := []
noncomputable def decimal_within_int_rr {R : Type} (fn : decimal_within_int_ty R) : Pat.dens decimal_within_int_p → HPat.dens decimal_within_int_q → (V → Heap → Option R) → Option R := fun x y k => fn x.1 x.2.1 x.2.2.1 (fun q0 => k (.bool q0) [])
noncomputable def decimal_within_int_E (R : Type) : Env R := fun i => match i with
  | _ => none
theorem decimal_within_int_EOk (R : Type) : EOk Tryd.prog (decimal_within_int_E R) := by
  intro i b sp h
  unfold decimal_within_int_E at h
  split at h
  · cases h

noncomputable def decimal_within_int_T (R : Type) : Nat → Option (Hint × LSpec R) := fun i => match i with
  | _ => none

noncomputable def decimal_within_int_X {R : Type} (x1 : Int) (x2 : Int) (x3 : Int) (k0 : Bool → Option R) : Option R :=
  bif (decide (x1 ≤ x2)) then (k0 (decide (x2 ≤ x3))) else (k0 false)
noncomputable def decimal_within_int {R : Type} : decimal_within_int_ty R := fun x1 x2 x3 k0 => decimal_within_int_X x1 x2 x3 k0
theorem decimal_within_int_ok {R : Type} (x1 : Int) (x2 : Int) (x3 : Int) (k : V → Heap → Option R) : funK tt (decimal_within_int_E R) (decimal_within_int_T R) false Tryd.f64 (codeOf Tryd.f64) [.int .i64 x1, .int .i64 x2, .int .i64 x3] [] k =
    decimal_within_int_X x1 x2 x3 (fun q0 => k (.bool q0) []) := by kernel_rfl
theorem decimal_within_int_loops (R : Type) : ∀ a ∈ loopsOf (codeOf Tryd.f64), LoopOk tt (decimal_within_int_E R) (decimal_within_int_T R) 0 a := by
  refine loops_ok 0 (by kernel_rfl) fun i hi => ?_
  omega
theorem decimal_within_int_S_ok (R : Type) (other : Yard.Spec R) (ho : Yard.Spec.Ok Tryd.prog 64 other) : Yard.Spec.Ok Tryd.prog 64 (specBy decimal_within_int_p decimal_within_int_q (decimal_within_int_rr decimal_within_int) other) :=
  specBy_ok ho (funK_sound TT mixed (decimal_within_int_EOk R) (keep := false) rfl rfl rfl rfl 0 (decimal_within_int_loops R)) fun (x : Pat.dens decimal_within_int_p) (y : HPat.dens decimal_within_int_q) k => decimal_within_int_ok x.1 x.2.1 x.2.2.1 k

/-! ### humpyard/decimal.Make -/
abbrev decimal_Make_ty (R : Type) : Type := Int → Int → (Dcm → Bool → Option R) → Option R
abbrev decimal_Make_p : List Pat := [.leaf (.int .i64), .leaf (.int .i64)]
abbrev decimal_Make_q : List HPat := []
noncomputable def decimal_Make_rr {R : Type} (fn : decimal_Make_ty R) : Pat.dens decimal_Make_p → HPat.dens decimal_Make_q → (V → Heap → Option R) → Option R := fun x y k => fn x.1 x.2.1 (fun q0 q1 => k (.tuple [.agg [.int .i64 q0.mant, .int .i64 q0.exp], .bool q1]) [])
abbrev decimal_Make_4_0_ty (R : Type) : Type := Nat → Int → Int → Dcm → (Int → Int → Dcm → Option R) → Option R
noncomputable def decimal_Make_E (R : Type) (decimal_within_int : decimal_within_int_ty R) : Env R := fun i => match i with
  | 64 => some (true, (specBy decimal_within_int_p decimal_within_int_q (decimal_within_int_rr decimal_within_int) specNo))
  | _ => none
theorem decimal_Make_EOk (R : Type) : EOk Tryd.prog (decimal_Make_E R decimal_within_int) := by
  intro i b sp h
  unfold decimal_Make_E at h
  split at h
  · cases h; exact ⟨(decimal_within_int_S_ok R _ (specNo_ok _)), fun h => nomatch h⟩
  · cases h

noncomputable def decimal_Make_4_0_B {R : Type} (rec' : Int → Int → Dcm → Option R) (x3 : Int) (x4 : Int) (x5 : Dcm) (e0 : Int → Int → Dcm → Option R) : Option R :=
  bif ((Int.tmod x3 10) == 0) then (rec' (IntKind.i64.wrap (Int.tdiv x3 10)) (IntKind.i64.wrap (x4 + 1)) x5) else (e0 x3 x4 x5)
noncomputable def decimal_Make_4_0_L {R : Type} : decimal_Make_4_0_ty R
  | 0, _, _, _, _ => none
  | n + 1, x0', x1', x2', e0 => decimal_Make_4_0_B (fun x0' x1' x2' => decimal_Make_4_0_L n x0' x1' x2' e0) x0' x1' x2' e0
noncomputable def decimal_Make_4_0_h : Hint := { live := [0, 1, 4], own := [], rows := [], cells := [], drop := [], out := [0, 1, 4, 5] }
abbrev decimal_Make_4_0_D : Type := Int × Int × Dcm
noncomputable def decimal_Make_4_0_enc : decimal_Make_4_0_D → St := fun d => ⟨[.int .i64 d.1, .int .i64 d.2.1, .undef, .undef, .ptr 0 0, .undef, .undef, .undef, .undef, .undef, .undef, .undef, .undef, .undef, .undef, .undef, .undef, .undef, .undef, .undef, .undef, .undef, .undef, .undef, .undef, .undef, .undef, .undef, .undef, .undef], [.cells [.int .i64 d.2.2.mant, .int .i64 d.2.2.exp]]⟩
noncomputable def decimal_Make_4_0_x0 {R : Type} (K : Ex → St → Option R) (q0 : Int) (q1 : Int) (q2 : Dcm) : Option R := K (.exit 0) ⟨[.int .i64 q0, .int .i64 q1, .undef, .undef, .ptr 0 0, .undef, .undef, .undef, .undef, .undef, .undef, .undef, .undef, .undef, .undef, .undef, .undef, .undef, .undef, .undef, .undef, .undef, .undef, .undef, .undef, .undef, .undef, .undef, .undef, .undef], [.cells [.int .i64 q2.mant, .int .i64 q2.exp]]⟩
noncomputable def decimal_Make_4_0_s {R : Type} (K : Ex → St → Option R) (rc : decimal_Make_4_0_D → Option R) (d : decimal_Make_4_0_D) : Option R := decimal_Make_4_0_B (fun z0 z1 z2 => rc (z0, z1, z2)) d.1 d.2.1 d.2.2 (decimal_Make_4_0_x0 K)
noncomputable def decimal_Make_4_0_A {R : Type} (K : Ex → St → Option R) (n : Nat) (d : decimal_Make_4_0_D) : Option R := decimal_Make_4_0_L n d.1 d.2.1 d.2.2 (decimal_Make_4_0_x0 K)
abbrev decimal_Make_4_0_p : List Pat := [.leaf (.int .i64), .leaf (.int .i64), .leaf (.undef), .leaf (.undef), .leaf (.ptr 0 0), .leaf (.undef), .leaf (.undef), .leaf (.undef), .leaf (.undef), .leaf (.undef), .leaf (.undef), .leaf (.undef), .leaf (.undef), .leaf (.undef), .leaf (.undef), .leaf (.undef), .leaf (.undef), .leaf (.undef), .leaf (.undef), .leaf (.undef), .leaf (.undef), .leaf (.undef), .leaf (.undef), .leaf (.undef), .leaf (.undef), .leaf (.undef), .leaf (.undef), .leaf (.undef), .leaf (.undef), .leaf (.undef)]
abbrev decimal_Make_4_0_q : List HPat := [.cells [.int .i64, .int .i64]]
noncomputable def decimal_Make_4_0_f (x : Pat.dens decimal_Make_4_0_p) (y : HPat.dens decimal_Make_4_0_q) : Nat := (Int.natAbs x.1 + Int.natAbs x.2.1 + Dcm.fu (⟨y.1.1, y.1.2.1⟩ : Dcm) + 64)
noncomputable def decimal_Make_4_0_d (x : Pat.dens decimal_Make_4_0_p) (y : HPat.dens decimal_Make_4_0_q) : decimal_Make_4_0_D := (x.1, x.2.1, (⟨y.1.1, y.1.2.1⟩ : Dcm))
noncomputable def decimal_Make_4_0_rr {R : Type} (L : decimal_Make_4_0_ty R) : Pat.dens decimal_Make_4_0_p → HPat.dens decimal_Make_4_0_q → (Ex → St → Option R) → Option R := fun x y K => L (decimal_Make_4_0_f x y) x.1 x.2.1 (⟨y.1.1, y.1.2.1⟩ : Dcm) (decimal_Make_4_0_x0 K)
noncomputable def decimal_Make_T (R : Type) (decimal_Make_4_0_L : decimal_Make_4_0_ty R) : Nat → Option (Hint × LSpec R) := fun i => match i with
  | 4 => some (decimal_Make_4_0_h, (loopBy decimal_Make_4_0_p decimal_Make_4_0_q (decimal_Make_4_0_rr decimal_Make_4_0_L) loopNo))
  | _ => none

theorem decimal_Make_4_0_B_ok {R : Type} (decimal_within_int : decimal_within_int_ty R) (decimal_Make_4_0_L : decimal_Make_4_0_ty R) (K : Ex → St → Option R) (rc : St → Option R) (d : decimal_Make_4_0_D) : roundOf tt (decimal_Make_E R decimal_within_int) (decimal_Make_T R decimal_Make_4_0_L) 0 ((loopsOf (codeOf Tryd.f32)).getD 0 .skip) decimal_Make_4_0_h (decimal_Make_4_0_enc d) rc K = decimal_Make_4_0_s K (fun d => rc (decimal_Make_4_0_enc d)) d := by kernel_rfl
theorem decimal_Make_4_0_A_succ {R : Type} (K : Ex → St → Option R) (n : Nat) (d : decimal_Make_4_0_D) : decimal_Make_4_0_A K (n + 1) d = decimal_Make_4_0_s K (decimal_Make_4_0_A K n) d := by kernel_rfl
theorem decimal_Make_4_0_A_zero {R : Type} (K : Ex → St → Option R) (d : decimal_Make_4_0_D) : decimal_Make_4_0_A K 0 d = none := by kernel_rfl
theorem decimal_Make_4_0_e_ok (x : Pat.dens decimal_Make_4_0_p) (y : HPat.dens decimal_Make_4_0_q) : (⟨Pat.encL decimal_Make_4_0_p x, HPat.encL decimal_Make_4_0_q y⟩ : St) = decimal_Make_4_0_enc (decimal_Make_4_0_d x y) := by kernel_rfl
theorem decimal_Make_4_0_r_ok {R : Type} (x : Pat.dens decimal_Make_4_0_p) (y : HPat.dens decimal_Make_4_0_q) (K : Ex → St → Option R) : decimal_Make_4_0_rr (decimal_Make_4_0_L) x y K = decimal_Make_4_0_A K (decimal_Make_4_0_f x y) (decimal_Make_4_0_d x y) := by kernel_rfl
theorem decimal_Make_4_0_ok {R : Type} (other : LSpec R) (ho : LsOk tt (decimal_Make_E R decimal_within_int) (decimal_Make_T R decimal_Make_4_0_L) 0 ((loopsOf (codeOf Tryd.f32)).getD 0 .skip) decimal_Make_4_0_h other) : LsOk tt (decimal_Make_E R decimal_within_int) (decimal_Make_T R decimal_Make_4_0_L) 0 ((loopsOf (codeOf Tryd.f32)).getD 0 .skip) decimal_Make_4_0_h (loopBy decimal_Make_4_0_p decimal_Make_4_0_q (decimal_Make_4_0_rr (decimal_Make_4_0_L)) other) :=
  loopBy_tie (A := decimal_Make_4_0_A) ho (loop_tie decimal_Make_4_0_enc (decimal_Make_4_0_s) (decimal_Make_4_0_A) (decimal_Make_4_0_A_zero) (decimal_Make_4_0_B_ok decimal_within_int decimal_Make_4_0_L) (decimal_Make_4_0_A_succ)) decimal_Make_4_0_f decimal_Make_4_0_d decimal_Make_4_0_e_ok (decimal_Make_4_0_r_ok)

noncomputable def decimal_Make_X {R : Type} (decimal_within_int : decimal_within_int_ty R) (decimal_Make_4_0_L : decimal_Make_4_0_ty R) (x1 : Int) (x2 : Int) (k0 : Dcm → Bool → Option R) : Option R :=
  bif (x1 == 0) then (k0 (⟨0, 0⟩ : Dcm) true) else (decimal_Make_4_0_L (Int.natAbs x1 + Int.natAbs (min x2 1000000) + Dcm.fu (⟨0, 0⟩ : Dcm) + 64) x1 (min x2 1000000) (⟨0, 0⟩ : Dcm) (fun y6 y7 y8 => decimal_within_int (-1000000000000000) y6 1000000000000000 (fun y9 => bif (!y9) then (k0 (⟨0, 0⟩ : Dcm) false) else (decimal_within_int (-9) y7 9 (fun y10 => bif (!y10) then (k0 (⟨0, 0⟩ : Dcm) false) else (k0 (⟨y6, y7⟩ : Dcm) true))))))
noncomputable def decimal_Make {R : Type} : decimal_Make_ty R := fun x1 x2 k0 => decimal_Make_X decimal_within_int decimal_Make_4_0_L x1 x2 k0
theorem decimal_Make_ok {R : Type} (decimal_within_int : decimal_within_int_ty R) (decimal_Make_4_0_L : decimal_Make_4_0_ty R) (x1 : Int) (x2 : Int) (k : V → Heap → Option R) : funK tt (decimal_Make_E R decimal_within_int) (decimal_Make_T R decimal_Make_4_0_L) false Tryd.f32 (codeOf Tryd.f32) [.int .i64 x1, .int .i64 x2] [] k =
    decimal_Make_X decimal_within_int decimal_Make_4_0_L x1 x2 (fun q0 q1 => k (.tuple [.agg [.int .i64 q0.mant, .int .i64 q0.exp], .bool q1]) []) := by kernel_rfl
theorem decimal_Make_loops (R : Type) : ∀ a ∈ loopsOf (codeOf Tryd.f32), LoopOk tt (decimal_Make_E R decimal_within_int) (decimal_Make_T R decimal_Make_4_0_L) 0 a := by
  refine loops_ok 1 (by kernel_rfl) fun i hi => ?_
  match i, hi with
  | 0, _ => exact loopOk_some (by kernel_rfl) (decimal_Make_4_0_ok _ loopNo_ok)
  | n + 1, hi => omega
theorem decimal_Make_S_ok (R : Type) (other : Yard.Spec R) (ho : Yard.Spec.Ok Tryd.prog 32 other) : Yard.Spec.Ok Tryd.prog 32 (specBy decimal_Make_p decimal_Make_q (decimal_Make_rr decimal_Make) other) :=
  specBy_ok ho (funK_sound TT mixed (decimal_Make_EOk R) (keep := false) rfl rfl rfl rfl 0 (decimal_Make_loops R)) fun (x : Pat.dens decimal_Make_p) (y : HPat.dens decimal_Make_q) k => decimal_Make_ok decimal_within_int decimal_Make_4_0_L x.1 x.2.1 k

/-! ### humpyard/decimal.Parse -/
abbrev decimal_Parse_ty (R : Type) : Type := Str → (Dcm → Bool → Option R) → Option R
abbrev decimal_Parse_p : List Pat := [.leaf (.str)]
abbrev decimal_Parse_q : List HPat := []
noncomputable def decimal_Parse_rr {R : Type} (fn : decimal_Parse_ty R) : Pat.dens decimal_Parse_p → HPat.dens decimal_Parse_q → (V → Heap → Option R) → Option R := fun x y k => fn x.1 (fun q0 q1 => k (.tuple [.agg [.int .i64 q0.mant, .int .i64 q0.exp], .bool q1]) [])
noncomputable def decimal_Parse_E (R : Type) (decimal_Make : decimal_Make_ty R) (decimal_reader_sign_e74a : decimal_reader_sign_e74a_ty R) (decimal_reader_digits_abbd : decimal_reader_digits_abbd_ty R) (decimal_reader_exponent_abbd : decimal_reader_exponent_abbd_ty R) : Env R := fun i => match i with
  | 32 => some (true, (specBy decimal_Make_p decimal_Make_q (decimal_Make_rr decimal_Make) specNo))
  | 58 => some (false, (specBy decimal_reader_sign_e74a_p decimal_reader_sign_e74a_q (decimal_reader_sign_e74a_rr decimal_reader_sign_e74a) specNo))
  | 59 => some (false, (specBy decimal_reader_digits_abbd_p decimal_reader_digits_abbd_q (decimal_reader_digits_abbd_rr decimal_reader_digits_abbd) specNo))
  | 60 => some (false, (specBy decimal_reader_exponent_abbd_p decimal_reader_exponent_abbd_q (decimal_reader_exponent_abbd_rr decimal_reader_exponent_abbd) specNo))
  | 61 => some (true, (trimL_S R))
  | 62 => some (true, (trimR_S R))
  | 63 => some (true, (atoi_S R))
  | _ => none
theorem decimal_Parse_EOk (R : Type) : EOk Tryd.prog (decimal_Parse_E R decimal_Make decimal_reader_sign_e74a decimal_reader_digits_abbd decimal_reader_exponent_abbd) := by
  intro i b sp h
  unfold decimal_Parse_E at h
  split at h
  · cases h; exact ⟨(decimal_Make_S_ok R _ (specNo_ok _)), fun h => nomatch h⟩
  · cases h; exact ⟨(decimal_reader_sign_e74a_S_ok R _ (specNo_ok _)), fun _ h => nomatch h⟩
  · cases h; exact ⟨(decimal_reader_digits_abbd_S_ok R _ (specNo_ok _)), fun _ h => nomatch h⟩
  · cases h; exact ⟨(decimal_reader_exponent_abbd_S_ok R _ (specNo_ok _)), fun _ h => nomatch h⟩
  · cases h; exact ⟨(trimL_ok), fun h => nomatch h⟩
  · cases h; exact ⟨(trimR_ok), fun h => nomatch h⟩
  · cases h; exact ⟨(atoi_ok), fun h => nomatch h⟩
  · cases h

noncomputable def decimal_Parse_T (R : Type) : Nat → Option (Hint × LSpec R) := fun i => match i with
  | _ => none

noncomputable def decimal_Parse_X {R : Type} (decimal_Make : decimal_Make_ty R) (decimal_reader_sign_e74a : decimal_reader_sign_e74a_ty R) (decimal_reader_digits_abbd : decimal_reader_digits_abbd_ty R) (decimal_reader_exponent_abbd : decimal_reader_exponent_abbd_ty R) (x1 : Str) (k0 : Dcm → Bool → Option R) : Option R :=
  decimal_reader_sign_e74a ([45] : Str) x1 (fun y2 y3 => decimal_reader_digits_abbd y3 (fun y4 y5 => let j32 := let j31 := fun (z11 : Str) (z12 : Int) (z13 : Str) => let j30 := fun (z19 : Int) (z20 : Str) => chk (isAsc ([48] : Str) && decide (([48] : Str).length < 4294967281)) (chk (isAsc ([48] : Str) && decide (([48] : Str).length < 4294967281)) (bif (!(z20 == ([] : Str))) then (k0 (⟨0, 0⟩ : Dcm) false) else (bif (decide (((trimR (trimL z11 ([48] : Str)) ([48] : Str)).length : Int) > (18 : Int))) then (k0 (⟨0, 0⟩ : Dcm) false) else (let j29 := bif (y2 != 0) then (decimal_Make (IntKind.i64.wrap (0 - (atoiVal (([48] : Str) ++ (trimR (trimL z11 ([48] : Str)) ([48] : Str)))))) (IntKind.i64.wrap (z19 + (IntKind.i64.wrap (((trimL z11 ([48] : Str)).length : Int) - ((trimR (trimL z11 ([48] : Str)) ([48] : Str)).length : Int))))) (fun y25 y26 => k0 y25 y26)) else (decimal_Make (atoiVal (([48] : Str) ++ (trimR (trimL z11 ([48] : Str)) ([48] : Str)))) (IntKind.i64.wrap (z19 + (IntKind.i64.wrap (((trimL z11 ([48] : Str)).length : Int) - ((trimR (trimL z11 ([48] : Str)) ([48] : Str)).length : Int))))) (fun y27 y28 => k0 y27 y28)); chk (decide (1 + (trimR (trimL z11 ([48] : Str)) ([48] : Str)).length ≤ 9223372036854775807)) (chk (decide ((([48] : Str) ++ (trimR (trimL z11 ([48] : Str)) ([48] : Str))).length ≤ 281474976710656)) (bif atoiOk (([48] : Str) ++ (trimR (trimL z11 ([48] : Str)) ([48] : Str))) then (j29) else (j29))))))); decimal_reader_sign_e74a ([101, 69] : Str) z13 (fun y14 y15 => bif (y14 != 0) then (decimal_reader_exponent_abbd y15 (fun y16 y17 y18 => bif (!y17) then (k0 (⟨0, 0⟩ : Dcm) false) else (j30 (IntKind.i64.wrap (z12 + y16)) y18))) else (j30 z12 y15)); decimal_reader_sign_e74a ([46] : Str) y5 (fun y7 y8 => bif (y7 != 0) then (decimal_reader_digits_abbd y8 (fun y9 y10 => bif (y9 == ([] : Str)) then (k0 (⟨0, 0⟩ : Dcm) false) else (chk (decide (y4.length + y9.length ≤ 9223372036854775807)) (j31 (y4 ++ y9) (IntKind.i64.wrap (0 - (y9.length : Int))) y10)))) else (j31 y4 0 y8)); bif (decide ((x1.length : Int) > (400 : Int))) then (k0 (⟨0, 0⟩ : Dcm) false) else (bif (y4 == ([] : Str)) then (k0 (⟨0, 0⟩ : Dcm) false) else (bif (decide ((y4.length : Int) > (1 : Int))) then (chk (decide ((0 : Int) < y4.length)) (bif (((y4.getD 0 0).toNat : Int) == 48) then (k0 (⟨0, 0⟩ : Dcm) false) else (j32))) else (j32)))))
noncomputable def decimal_Parse {R : Type} : decimal_Parse_ty R := fun x1 k0 => decimal_Parse_X decimal_Make decimal_reader_sign_e74a decimal_reader_digits_abbd decimal_reader_exponent_abbd x1 k0
theorem decimal_Parse_ok {R : Type} (decimal_Make : decimal_Make_ty R) (decimal_reader_sign_e74a : decimal_reader_sign_e74a_ty R) (decimal_reader_digits_abbd : decimal_reader_digits_abbd_ty R) (decimal_reader_exponent_abbd : decimal_reader_exponent_abbd_ty R) (x1 : Str) (k : V → Heap → Option R) : funK tt (decimal_Parse_E R decimal_Make decimal_reader_sign_e74a decimal_reader_digits_abbd decimal_reader_exponent_abbd) (decimal_Parse_T R) false Tryd.f29 (codeOf Tryd.f29) [.str x1] [] k =
    decimal_Parse_X decimal_Make decimal_reader_sign_e74a decimal_reader_digits_abbd decimal_reader_exponent_abbd x1 (fun q0 q1 => k (.tuple [.agg [.int .i64 q0.mant, .int .i64 q0.exp], .bool q1]) []) := by kernel_rfl
theorem decimal_Parse_loops (R : Type) : ∀ a ∈ loopsOf (codeOf Tryd.f29), LoopOk tt (decimal_Parse_E R decimal_Make decimal_reader_sign_e74a decimal_reader_digits_abbd decimal_reader_exponent_abbd) (decimal_Parse_T R) 0 a := by
  refine loops_ok 0 (by kernel_rfl) fun i hi => ?_
  omega
theorem decimal_Parse_S_ok (R : Type) (other : Yard.Spec R) (ho : Yard.Spec.Ok Tryd.prog 29 other) : Yard.Spec.Ok Tryd.prog 29 (specBy decimal_Parse_p decimal_Parse_q (decimal_Parse_rr decimal_Parse) other) :=
  specBy_ok ho (funK_sound TT mixed (decimal_Parse_EOk R) (keep := false) rfl rfl rfl rfl 0 (decimal_Parse_loops R)) fun (x : Pat.dens decimal_Parse_p) (y : HPat.dens decimal_Parse_q) k => decimal_Parse_ok decimal_Make decimal_reader_sign_e74a decimal_reader_digits_abbd decimal_reader_exponent_abbd x.1 k

/-! ### humpyard/decimal.Right -/
abbrev decimal_Right_ty (R : Type) : Type := Dcm → (Bool → Option R) → Option R
abbrev decimal_Right_p : List Pat := [.agg [.int .i64, .int .i64]]
abbrev decimal_Right_q : List HPat := []
noncomputable def decimal_Right_rr {R : Type} (fn : decimal_Right_ty R) : Pat.dens decimal_Right_p → HPat.dens decimal_Right_q → (V → Heap → Option R) → Option R := fun x y k => fn (⟨x.1.1, x.1.2.1⟩ : Dcm) (fun q0 => k (.bool q0) [])
noncomputable def decimal_Right_E (R : Type) (decimal_within_int : decimal_within_int_ty R) : Env R := fun i => match i with
  | 64 => some (true, (specBy decimal_within_int_p decimal_within_int_q (decimal_within_int_rr decimal_within_int) specNo))
  | _ => none
theorem decimal_Right_EOk (R : Type) : EOk Tryd.prog (decimal_Right_E R decimal_within_int) := by
  intro i b sp h
  unfold decimal_Right_E at h
  split at h
  · cases h; exact ⟨(decimal_within_int_S_ok R _ (specNo_ok _)), fun h => nomatch h⟩
  · cases h

noncomputable def decimal_Right_T (R : Type) : Nat → Option (Hint × LSpec R) := fun i => match i with
  | _ => none

noncomputable def decimal_Right_X {R : Type} (decimal_within_int : decimal_within_int_ty R) (x1 : Dcm) (k0 : Bool → Option R) : Option R :=
  bif (x1.mant == 0) then (k0 (x1.exp == 0)) else (bif ((Int.tmod x1.mant 10) != 0) then (decimal_within_int (-1000000000000000) x1.mant 1000000000000000 (fun y2 => bif y2 then (decimal_within_int (-9) x1.exp 9 (fun y3 => k0 y3)) else (k0 false))) else (k0 false))
noncomputable def decimal_Right {R : Type} : decimal_Right_ty R := fun x1 k0 => decimal_Right_X decimal_within_int x1 k0
theorem decimal_Right_ok {R : Type} (decimal_within_int : decimal_within_int_ty R) (x1 : Dcm) (k : V → Heap → Option R) : funK tt (decimal_Right_E R decimal_within_int) (decimal_Right_T R) false Tryd.f30 (codeOf Tryd.f30) [.agg [.int .i64 x1.mant, .int .i64 x1.exp]] [] k =
    decimal_Right_X decimal_within_int x1 (fun q0 => k (.bool q0) []) := by kernel_rfl
theorem decimal_Right_loops (R : Type) : ∀ a ∈ loopsOf (codeOf Tryd.f30), LoopOk tt (decimal_Right_E R decimal_within_int) (decimal_Right_T R) 0 a := by
  refine loops_ok 0 (by kernel_rfl) fun i hi => ?_
  omega
theorem decimal_Right_S_ok (R : Type) (other : Yard.Spec R) (ho : Yard.Spec.Ok Tryd.prog 30 other) : Yard.Spec.Ok Tryd.prog 30 (specBy decimal_Right_p decimal_Right_q (decimal_Right_rr decimal_Right) other) :=
  specBy_ok ho (funK_sound TT mixed (decimal_Right_EOk R) (keep := false) rfl rfl rfl rfl 0 (decimal_Right_loops R)) fun (x : Pat.dens decimal_Right_p) (y : HPat.dens decimal_Right_q) k => decimal_Right_ok decimal_within_int (⟨x.1.1, x.1.2.1⟩ : Dcm) k

end Go.Proofs.YtifgegmnngfckaaDoor

/-
  Functions of the program as pure Lean functions, and the ties; printed by wip/tools/emit.py.
-/
set_option maxRecDepth 100000
set_option linter.unusedVariables false
namespace Go.Proofs.YtifgegmnngfckaaDoor
open Go Go.Yard

/-! ### humpyard/decimal.shifted -/
abbrev decimal_shifted_ty (R : Type) : Type := Dcm → Int → (Int → Bool → Option R) → Option R
abbrev decimal_shifted_p : List Pat := [.agg [.int .i64, .int .i64], .leaf (.int .i64)]
abbrev decimal_shifted_q : List HPat := []
noncomputable def decimal_shifted_rr {R : Type} (fn : decimal_shifted_ty R) : Pat.dens decimal_shifted_p → HPat.dens decimal_shifted_q → (V → Heap → Option R) → Option R := fun x y k => fn (⟨x.1.1, x.1.2.1⟩ : Dcm) x.2.1 (fun q0 q1 => k (.tuple [.int .i64 q0, .bool q1]) [])
abbrev decimal_shifted_3_0_ty (R : Type) : Type := Nat → Int → Int → Int → (Int → Option R) → (Int → Bool → Int → Option R) → Option R
noncomputable def decimal_shifted_E (R : Type) (decimal_within_int : decimal_within_int_ty R) : Env R := fun i => match i with
  | 64 => some (true, (specBy decimal_within_int_p decimal_within_int_q (decimal_within_int_rr decimal_within_int) specNo))
  | _ => none
theorem decimal_shifted_EOk (R : Type) : EOk Tryd.prog (decimal_shifted_E R decimal_within_int) := by
  intro i b sp h
  unfold decimal_shifted_E at h
  split at h
  · cases h; exact ⟨(decimal_within_int_S_ok R _ (specNo_ok _)), fun h => nomatch h⟩
  · cases h

noncomputable def decimal_shifted_3_0_B {R : Type} (decimal_within_int : decimal_within_int_ty R) (rec' : Int → Int → Int → Option R) (x3 : Int) (x4 : Int) (x5 : Int) (e0 : Int → Option R) (e1 : Int → Bool → Int → Option R) : Option R :=
  bif (decide (x5 < x4)) then (decimal_within_int (-100000000000000000) x3 100000000000000000 (fun y6 => bif (!y6) then (e1 0 false x3) else (rec' (IntKind.i64.wrap (x3 * 10)) x4 (IntKind.i64.wrap (x5 + 1))))) else (e0 x3)
noncomputable def decimal_shifted_3_0_L {R : Type} : decimal_shifted_3_0_ty R
  | 0, _, _, _, _, _ => none
  | n + 1, x0', x1', x2', e0, e1 => decimal_shifted_3_0_B decimal_within_int (fun x0' x1' x2' => decimal_shifted_3_0_L n x0' x1' x2' e0 e1) x0' x1' x2' e0 e1
noncomputable def decimal_shifted_3_0_h : Hint := { live := [6, 12, 13], own := [], rows := [], cells := [], drop := [], out := [4, 5, 6] }
abbrev decimal_shifted_3_0_D : Type := Int × Int × Int
noncomputable def decimal_shifted_3_0_enc : decimal_shifted_3_0_D → St := fun d => ⟨[.undef, .undef, .undef, .undef, .undef, .undef, .int .i64 d.1, .undef, .undef, .undef, .undef, .undef, .int .i64 d.2.1, .int .i64 d.2.2, .undef, .undef, .undef, .undef, .undef, .undef, .undef, .undef], []⟩
noncomputable def decimal_shifted_3_0_x0 {R : Type} (K : Ex → St → Option R) (q0 : Int) : Option R := K (.exit 0) ⟨[.undef, .undef, .undef, .undef, .undef, .undef, .int .i64 q0, .undef, .undef, .undef, .undef, .undef, .undef, .undef, .undef, .undef, .undef, .undef, .undef, .undef, .undef, .undef], []⟩
noncomputable def decimal_shifted_3_0_x1 {R : Type} (K : Ex → St → Option R) (q0 : Int) (q1 : Bool) (q2 : Int) : Option R := K (.ret) ⟨[.undef, .undef, .undef, .undef, .int .i64 q0, .bool q1, .int .i64 q2, .undef, .undef, .undef, .undef, .undef, .undef, .undef, .undef, .undef, .undef, .undef, .undef, .undef, .undef, .undef], []⟩
noncomputable def decimal_shifted_3_0_s {R : Type} (decimal_within_int : decimal_within_int_ty R) (K : Ex → St → Option R) (rc : decimal_shifted_3_0_D → Option R) (d : decimal_shifted_3_0_D) : Option R := decimal_shifted_3_0_B decimal_within_int (fun z0 z1 z2 => rc (z0, z1, z2)) d.1 d.2.1 d.2.2 (decimal_shifted_3_0_x0 K) (decimal_shifted_3_0_x1 K)
noncomputable def decimal_shifted_3_0_A {R : Type} (K : Ex → St → Option R) (n : Nat) (d : decimal_shifted_3_0_D) : Option R := decimal_shifted_3_0_L n d.1 d.2.1 d.2.2 (decimal_shifted_3_0_x0 K) (decimal_shifted_3_0_x1 K)
abbrev decimal_shifted_3_0_p : List Pat := [.leaf (.undef), .leaf (.undef), .leaf (.undef), .leaf (.undef), .leaf (.undef), .leaf (.undef), .leaf (.int .i64), .leaf (.undef), .leaf (.undef), .leaf (.undef), .leaf (.undef), .leaf (.undef), .leaf (.int .i64), .leaf (.int .i64), .leaf (.undef), .leaf (.undef), .leaf (.undef), .leaf (.undef), .leaf (.undef), .leaf (.undef), .leaf (.undef), .leaf (.undef)]
abbrev decimal_shifted_3_0_q : List HPat := []
noncomputable def decimal_shifted_3_0_f (x : Pat.dens decimal_shifted_3_0_p) (y : HPat.dens decimal_shifted_3_0_q) : Nat := (Int.natAbs x.2.2.2.2.2.2.1 + Int.natAbs x.2.2.2.2.2.2.2.2.2.2.2.2.1 + Int.natAbs x.2.2.2.2.2.2.2.2.2.2.2.2.2.1 + 64)
noncomputable def decimal_shifted_3_0_d (x : Pat.dens decimal_shifted_3_0_p) (y : HPat.dens decimal_shifted_3_0_q) : decimal_shifted_3_0_D := (x.2.2.2.2.2.2.1, x.2.2.2.2.2.2.2.2.2.2.2.2.1, x.2.2.2.2.2.2.2.2.2.2.2.2.2.1)
noncomputable def decimal_shifted_3_0_rr {R : Type} (L : decimal_shifted_3_0_ty R) : Pat.dens decimal_shifted_3_0_p → HPat.dens decimal_shifted_3_0_q → (Ex → St → Option R) → Option R := fun x y K => L (decimal_shifted_3_0_f x y) x.2.2.2.2.2.2.1 x.2.2.2.2.2.2.2.2.2.2.2.2.1 x.2.2.2.2.2.2.2.2.2.2.2.2.2.1 (decimal_shifted_3_0_x0 K) (decimal_shifted_3_0_x1 K)
noncomputable def decimal_shifted_T (R : Type) (decimal_shifted_3_0_L : decimal_shifted_3_0_ty R) : Nat → Option (Hint × LSpec R) := fun i => match i with
  | 3 => some (decimal_shifted_3_0_h, (loopBy decimal_shifted_3_0_p decimal_shifted_3_0_q (decimal_shifted_3_0_rr decimal_shifted_3_0_L) loopNo))
  | _ => none

theorem decimal_shifted_3_0_B_ok {R : Type} (decimal_within_int : decimal_within_int_ty R) (decimal_shifted_3_0_L : decimal_shifted_3_0_ty R) (K : Ex → St → Option R) (rc : St → Option R) (d : decimal_shifted_3_0_D) : roundOf tt (decimal_shifted_E R decimal_within_int) (decimal_shifted_T R decimal_shifted_3_0_L) 0 ((loopsOf (codeOf Tryd.f68)).getD 0 .skip) decimal_shifted_3_0_h (decimal_shifted_3_0_enc d) rc K = decimal_shifted_3_0_s decimal_within_int K (fun d => rc (decimal_shifted_3_0_enc d)) d := by kernel_rfl
theorem decimal_shifted_3_0_A_succ {R : Type} (K : Ex → St → Option R) (n : Nat) (d : decimal_shifted_3_0_D) : decimal_shifted_3_0_A K (n + 1) d = decimal_shifted_3_0_s decimal_within_int K (decimal_shifted_3_0_A K n) d := by kernel_rfl
theorem decimal_shifted_3_0_A_zero {R : Type} (K : Ex → St → Option R) (d : decimal_shifted_3_0_D) : decimal_shifted_3_0_A K 0 d = none := by kernel_rfl
theorem decimal_shifted_3_0_e_ok (x : Pat.dens decimal_shifted_3_0_p) (y : HPat.dens decimal_shifted_3_0_q) : (⟨Pat.encL decimal_shifted_3_0_p x, HPat.encL decimal_shifted_3_0_q y⟩ : St) = decimal_shifted_3_0_enc (decimal_shifted_3_0_d x y) := by kernel_rfl
theorem decimal_shifted_3_0_r_ok {R : Type} (x : Pat.dens decimal_shifted_3_0_p) (y : HPat.dens decimal_shifted_3_0_q) (K : Ex → St → Option R) : decimal_shifted_3_0_rr (decimal_shifted_3_0_L) x y K = decimal_shifted_3_0_A K (decimal_shifted_3_0_f x y) (decimal_shifted_3_0_d x y) := by kernel_rfl
theorem decimal_shifted_3_0_ok {R : Type} (other : LSpec R) (ho : LsOk tt (decimal_shifted_E R decimal_within_int) (decimal_shifted_T R decimal_shifted_3_0_L) 0 ((loopsOf (codeOf Tryd.f68)).getD 0 .skip) decimal_shifted_3_0_h other) : LsOk tt (decimal_shifted_E R decimal_within_int) (decimal_shifted_T R decimal_shifted_3_0_L) 0 ((loopsOf (codeOf Tryd.f68)).getD 0 .skip) decimal_shifted_3_0_h (loopBy decimal_shifted_3_0_p decimal_shifted_3_0_q (decimal_shifted_3_0_rr (decimal_shifted_3_0_L)) other) :=
  loopBy_tie (A := decimal_shifted_3_0_A) ho (loop_tie decimal_shifted_3_0_enc (decimal_shifted_3_0_s decimal_within_int) (decimal_shifted_3_0_A) (decimal_shifted_3_0_A_zero) (decimal_shifted_3_0_B_ok decimal_within_int decimal_shifted_3_0_L) (decimal_shifted_3_0_A_succ)) decimal_shifted_3_0_f decimal_shifted_3_0_d decimal_shifted_3_0_e_ok (decimal_shifted_3_0_r_ok)

noncomputable def decimal_shifted_X {R : Type} (decimal_shifted_3_0_L : decimal_shifted_3_0_ty R) (x1 : Dcm) (x2 : Int) (k0 : Int → Bool → Option R) : Option R :=
  decimal_shifted_3_0_L (Int.natAbs x1.mant + Int.natAbs (IntKind.i64.wrap (x1.exp - x2)) + Int.natAbs 0 + 64) x1.mant (IntKind.i64.wrap (x1.exp - x2)) 0 (fun y7 => k0 y7 true) (fun y8 y9 y10 => k0 y8 y9)
noncomputable def decimal_shifted {R : Type} : decimal_shifted_ty R := fun x1 x2 k0 => decimal_shifted_X decimal_shifted_3_0_L x1 x2 k0
theorem decimal_shifted_ok {R : Type} (decimal_within_int : decimal_within_int_ty R) (decimal_shifted_3_0_L : decimal_shifted_3_0_ty R) (x1 : Dcm) (x2 : Int) (k : V → Heap → Option R) : funK tt (decimal_shifted_E R decimal_within_int) (decimal_shifted_T R decimal_shifted_3_0_L) false Tryd.f68 (codeOf Tryd.f68) [.agg [.int .i64 x1.mant, .int .i64 x1.exp], .int .i64 x2] [] k =
    decimal_shifted_X decimal_shifted_3_0_L x1 x2 (fun q0 q1 => k (.tuple [.int .i64 q0, .bool q1]) []) := by kernel_rfl
theorem decimal_shifted_loops (R : Type) : ∀ a ∈ loopsOf (codeOf Tryd.f68), LoopOk tt (decimal_shifted_E R decimal_within_int) (decimal_shifted_T R decimal_shifted_3_0_L) 0 a := by
  refine loops_ok 1 (by kernel_rfl) fun i hi => ?_
  match i, hi with
  | 0, _ => exact loopOk_some (by kernel_rfl) (decimal_shifted_3_0_ok _ loopNo_ok)
  | n + 1, hi => omega
theorem decimal_shifted_S_ok (R : Type) (other : Yard.Spec R) (ho : Yard.Spec.Ok Tryd.prog 68 other) : Yard.Spec.Ok Tryd.prog 68 (specBy decimal_shifted_p decimal_shifted_q (decimal_shifted_rr decimal_shifted) other) :=
  specBy_ok ho (funK_sound TT mixed (decimal_shifted_EOk R) (keep := false) rfl rfl rfl rfl 0 (decimal_shifted_loops R)) fun (x : Pat.dens decimal_shifted_p) (y : HPat.dens decimal_shifted_q) k => decimal_shifted_ok decimal_within_int decimal_shifted_3_0_L (⟨x.1.1, x.1.2.1⟩ : Dcm) x.2.1 k

/-! ### humpyard/decimal.Int -/
abbrev decimal_Int_ty (R : Type) : Type := Dcm → (Int → Bool → Option R) → Option R
abbrev decimal_Int_p : List Pat := [.agg [.int .i64, .int .i64]]
abbrev decimal_Int_q : List HPat := []
noncomputable def decimal_Int_rr {R : Type} (fn : decimal_Int_ty R) : Pat.dens decimal_Int_p → HPat.dens decimal_Int_q → (V → Heap → Option R) → Option R := fun x y k => fn (⟨x.1.1, x.1.2.1⟩ : Dcm) (fun q0 q1 => k (.tuple [.int .i64 q0, .bool q1]) [])
noncomputable def decimal_Int_E (R : Type) (decimal_Right : decimal_Right_ty R) (decimal_shifted : decimal_shifted_ty R) : Env R := fun i => match i with
  | 30 => some (true, (specBy decimal_Right_p decimal_Right_q (decimal_Right_rr decimal_Right) specNo))
  | 68 => some (true, (specBy decimal_shifted_p decimal_shifted_q (decimal_shifted_rr decimal_shifted) specNo))
  | _ => none
theorem decimal_Int_EOk (R : Type) : EOk Tryd.prog (decimal_Int_E R decimal_Right decimal_shifted) := by
  intro i b sp h
  unfold decimal_Int_E at h
  split at h
  · cases h; exact ⟨(decimal_Right_S_ok R _ (specNo_ok _)), fun h => nomatch h⟩
  · cases h; exact ⟨(decimal_shifted_S_ok R _ (specNo_ok _)), fun h => nomatch h⟩
  · cases h

noncomputable def decimal_Int_T (R : Type) : Nat → Option (Hint × LSpec R) := fun i => match i with
  | _ => none

noncomputable def decimal_Int_X {R : Type} (decimal_Right : decimal_Right_ty R) (decimal_shifted : decimal_shifted_ty R) (x1 : Dcm) (k0 : Int → Bool → Option R) : Option R :=
  decimal_Right x1 (fun y2 => bif (!y2) then (k0 0 false) else (bif (decide (x1.exp < (0 : Int))) then (k0 0 false) else (decimal_shifted x1 0 (fun y4 y5 => k0 y4 y5))))
noncomputable def decimal_Int {R : Type} : decimal_Int_ty R := fun x1 k0 => decimal_Int_X decimal_Right decimal_shifted x1 k0
theorem decimal_Int_ok {R : Type} (decimal_Right : decimal_Right_ty R) (decimal_shifted : decimal_shifted_ty R) (x1 : Dcm) (k : V → Heap → Option R) : funK tt (decimal_Int_E R decimal_Right decimal_shifted) (decimal_Int_T R) false Tryd.f39 (codeOf Tryd.f39) [.agg [.int .i64 x1.mant, .int .i64 x1.exp]] [] k =
    decimal_Int_X decimal_Right decimal_shifted x1 (fun q0 q1 => k (.tuple [.int .i64 q0, .bool q1]) []) := by kernel_rfl
theorem decimal_Int_loops (R : Type) : ∀ a ∈ loopsOf (codeOf Tryd.f39), LoopOk tt (decimal_Int_E R decimal_Right decimal_shifted) (decimal_Int_T R) 0 a := by
  refine loops_ok 0 (by kernel_rfl) fun i hi => ?_
  omega
theorem decimal_Int_S_ok (R : Type) (other : Yard.Spec R) (ho : Yard.Spec.Ok Tryd.prog 39 other) : Yard.Spec.Ok Tryd.prog 39 (specBy decimal_Int_p decimal_Int_q (decimal_Int_rr decimal_Int) other) :=
  specBy_ok ho (funK_sound TT mixed (decimal_Int_EOk R) (keep := false) rfl rfl rfl rfl 0 (decimal_Int_loops R)) fun (x : Pat.dens decimal_Int_p) (y : HPat.dens decimal_Int_q) k => decimal_Int_ok decimal_Right decimal_shifted (⟨x.1.1, x.1.2.1⟩ : Dcm) k

/-! ### (*strings.Builder).WriteString -/
abbrev strings_Builder_WriteString_fb8e_ty (R : Type) : Type := Str → (Int → (List Int) → Option R) → Option R
abbrev strings_Builder_WriteString_fb8e_p : List Pat := [.leaf (.ptr 0 0), .leaf (.str)]
abbrev strings_Builder_WriteString_fb8e_q : List HPat := [.bld (.nilsl)]
noncomputable def strings_Builder_WriteString_fb8e_rr {R : Type} (fn : strings_Builder_WriteString_fb8e_ty R) : Pat.dens strings_Builder_WriteString_fb8e_p → HPat.dens strings_Builder_WriteString_fb8e_q → (V → Heap → Option R) → Option R := fun x y k => fn x.2.1 (fun q0 q1 => k (.tuple [.int .i64 q0, .niliface]) [.bld (.sl (.int .u8) q1 (.own 1)), .tok])
noncomputable def strings_Builder_WriteString_fb8e_E (R : Type) : Env R := fun i => match i with
  | 72 => some (false, (bcc_S R))
  | _ => none
theorem strings_Builder_WriteString_fb8e_EOk (R : Type) : EOk Tryd.prog (strings_Builder_WriteString_fb8e_E R) := by
  intro i b sp h
  unfold strings_Builder_WriteString_fb8e_E at h
  split at h
  · cases h; exact ⟨(bcc_is), fun _ h => nomatch h⟩
  · cases h

noncomputable def strings_Builder_WriteString_fb8e_T (R : Type) : Nat → Option (Hint × LSpec R) := fun i => match i with
  | _ => none

noncomputable def strings_Builder_WriteString_fb8e_X {R : Type} (x1 : Str) (k0 : Int → (List Int) → Option R) : Option R :=
  chk (decide ((0 + (bytesN x1).length) * 1 ≤ 140737488355328)) (k0 (x1.length : Int) (bytesN x1))
noncomputable def strings_Builder_WriteString_fb8e {R : Type} : strings_Builder_WriteString_fb8e_ty R := fun x1 k0 => strings_Builder_WriteString_fb8e_X x1 k0
theorem strings_Builder_WriteString_fb8e_ok {R : Type} (x1 : Str) (k : V → Heap → Option R) : funK tt (strings_Builder_WriteString_fb8e_E R) (strings_Builder_WriteString_fb8e_T R) false Tryd.f47 (codeOf Tryd.f47) [.ptr 0 0, .str x1] [.bld (.nilsl)] k =
    strings_Builder_WriteString_fb8e_X x1 (fun q0 q1 => k (.tuple [.int .i64 q0, .niliface]) [.bld (.sl (.int .u8) q1 (.own 1)), .tok]) := by kernel_rfl
theorem strings_Builder_WriteString_fb8e_loops (R : Type) : ∀ a ∈ loopsOf (codeOf Tryd.f47), LoopOk tt (strings_Builder_WriteString_fb8e_E R) (strings_Builder_WriteString_fb8e_T R) 1 a := by
  refine loops_ok 0 (by kernel_rfl) fun i hi => ?_
  omega
theorem strings_Builder_WriteString_fb8e_S_ok (R : Type) (other : Yard.Spec R) (ho : Yard.Spec.Ok Tryd.prog 47 other) : Yard.Spec.Ok Tryd.prog 47 (specBy strings_Builder_WriteString_fb8e_p strings_Builder_WriteString_fb8e_q (strings_Builder_WriteString_fb8e_rr strings_Builder_WriteString_fb8e) other) :=
  specBy_ok ho (funK_sound TT mixed (strings_Builder_WriteString_fb8e_EOk R) (keep := false) rfl rfl rfl rfl 1 (strings_Builder_WriteString_fb8e_loops R)) fun (x : Pat.dens strings_Builder_WriteString_fb8e_p) (y : HPat.dens strings_Builder_WriteString_fb8e_q) k => strings_Builder_WriteString_fb8e_ok x.2.1 k

/-! ### humpyard/decimal.Print -/
abbrev decimal_Print_ty (R : Type) : Type := Dcm → (Str → Option R) → Option R
abbrev decimal_Print_p : List Pat := [.agg [.int .i64, .int .i64]]
abbrev decimal_Print_q : List HPat := []
noncomputable def decimal_Print_rr {R : Type} (fn : decimal_Print_ty R) : Pat.dens decimal_Print_p → HPat.dens decimal_Print_q → (V → Heap → Option R) → Option R := fun x y k => fn (⟨x.1.1, x.1.2.1⟩ : Dcm) (fun q0 => k (.str q0) [])
noncomputable def decimal_Print_E (R : Type) (decimal_Right : decimal_Right_ty R) (strings_Builder_WriteByte_b66c : strings_Builder_WriteByte_b66c_ty R) (strings_Builder_WriteString_df1e : strings_Builder_WriteString_df1e_ty R) (strings_Builder_WriteString_fb8e : strings_Builder_WriteString_fb8e_ty R) : Env R := fun i => match i with
  | 30 => some (true, (specBy decimal_Right_p decimal_Right_q (decimal_Right_rr decimal_Right) specNo))
  | 45 => some (false, (specBy strings_Builder_WriteByte_b66c_p strings_Builder_WriteByte_b66c_q (strings_Builder_WriteByte_b66c_rr strings_Builder_WriteByte_b66c) specNo))
  | 47 => some (false, (specBy strings_Builder_WriteString_fb8e_p strings_Builder_WriteString_fb8e_q (strings_Builder_WriteString_fb8e_rr strings_Builder_WriteString_fb8e) (specBy strings_Builder_WriteString_df1e_p strings_Builder_WriteString_df1e_q (strings_Builder_WriteString_df1e_rr strings_Builder_WriteString_df1e) specNo)))
  | 49 => some (false, (bstr_S R))
  | 56 => some (true, (itoa_S R))
  | 57 => some (true, (rep_S R))
  | _ => none
theorem decimal_Print_EOk (R : Type) : EOk Tryd.prog (decimal_Print_E R decimal_Right strings_Builder_WriteByte_b66c strings_Builder_WriteString_df1e strings_Builder_WriteString_fb8e) := by
  intro i b sp h
  unfold decimal_Print_E at h
  split at h
  · cases h; exact ⟨(decimal_Right_S_ok R _ (specNo_ok _)), fun h => nomatch h⟩
  · cases h; exact ⟨(strings_Builder_WriteByte_b66c_S_ok R _ (specNo_ok _)), fun _ h => nomatch h⟩
  · cases h; exact ⟨(strings_Builder_WriteString_fb8e_S_ok R _ (strings_Builder_WriteString_df1e_S_ok R _ (specNo_ok _))), fun _ h => nomatch h⟩
  · cases h; exact ⟨(bstr_is), fun _ _ => bstr_soft⟩
  · cases h; exact ⟨(itoa_ok), fun h => nomatch h⟩
  · cases h; exact ⟨(rep_ok), fun h => nomatch h⟩
  · cases h

noncomputable def decimal_Print_T (R : Type) : Nat → Option (Hint × LSpec R) := fun i => match i with
  | _ => none

noncomputable def decimal_Print_X {R : Type} (decimal_Right : decimal_Right_ty R) (strings_Builder_WriteByte_b66c : strings_Builder_WriteByte_b66c_ty R) (strings_Builder_WriteString_df1e : strings_Builder_WriteString_df1e_ty R) (strings_Builder_WriteString_fb8e : strings_Builder_WriteString_fb8e_ty R) (x1 : Dcm) (k0 : Str → Option R) : Option R :=
  decimal_Right x1 (fun y2 => bif (!y2) then (k0 ([] : Str)) else (bif (decide (x1.mant < (0 : Int))) then (strings_Builder_WriteByte_b66c 45 (fun y3 => bif (decide (x1.exp ≥ (0 : Int))) then (chk (decide (0 ≤ x1.exp) && decide ((([48] : Str).length : Int) * x1.exp ≤ 140737488355328)) (chk (decide ((itoaS (max x1.mant (IntKind.i64.wrap (0 - x1.mant)))).length + (repS ([48] : Str) x1.exp).length ≤ 9223372036854775807)) (strings_Builder_WriteString_df1e ((itoaS (max x1.mant (IntKind.i64.wrap (0 - x1.mant)))) ++ (repS ([48] : Str) x1.exp)) y3 (fun y4 y5 => k0 (bstr y5))))) else (chk (decide (0 ≤ (max 0 (IntKind.i64.wrap ((IntKind.i64.wrap (1 - x1.exp)) - ((itoaS (max x1.mant (IntKind.i64.wrap (0 - x1.mant)))).length : Int))))) && decide ((([48] : Str).length : Int) * (max 0 (IntKind.i64.wrap ((IntKind.i64.wrap (1 - x1.exp)) - ((itoaS (max x1.mant (IntKind.i64.wrap (0 - x1.mant)))).length : Int)))) ≤ 140737488355328)) (chk (decide ((repS ([48] : Str) (max 0 (IntKind.i64.wrap ((IntKind.i64.wrap (1 - x1.exp)) - ((itoaS (max x1.mant (IntKind.i64.wrap (0 - x1.mant)))).length : Int))))).length + (itoaS (max x1.mant (IntKind.i64.wrap (0 - x1.mant)))).length ≤ 9223372036854775807)) (chk (decide ((0 : Int) ≤ (IntKind.i64.wrap ((((repS ([48] : Str) (max 0 (IntKind.i64.wrap ((IntKind.i64.wrap (1 - x1.exp)) - ((itoaS (max x1.mant (IntKind.i64.wrap (0 - x1.mant)))).length : Int))))) ++ (itoaS (max x1.mant (IntKind.i64.wrap (0 - x1.mant))))).length : Int) + x1.exp))) && decide ((IntKind.i64.wrap ((((repS ([48] : Str) (max 0 (IntKind.i64.wrap ((IntKind.i64.wrap (1 - x1.exp)) - ((itoaS (max x1.mant (IntKind.i64.wrap (0 - x1.mant)))).length : Int))))) ++ (itoaS (max x1.mant (IntKind.i64.wrap (0 - x1.mant))))).length : Int) + x1.exp)) ≤ ((repS ([48] : Str) (max 0 (IntKind.i64.wrap ((IntKind.i64.wrap (1 - x1.exp)) - ((itoaS (max x1.mant (IntKind.i64.wrap (0 - x1.mant)))).length : Int))))) ++ (itoaS (max x1.mant (IntKind.i64.wrap (0 - x1.mant))))).length)) (chk (decide ((0 : Int) ≤ (IntKind.i64.wrap ((((repS ([48] : Str) (max 0 (IntKind.i64.wrap ((IntKind.i64.wrap (1 - x1.exp)) - ((itoaS (max x1.mant (IntKind.i64.wrap (0 - x1.mant)))).length : Int))))) ++ (itoaS (max x1.mant (IntKind.i64.wrap (0 - x1.mant))))).length : Int) + x1.exp)))) (chk (decide (((((repS ([48] : Str) (max 0 (IntKind.i64.wrap ((IntKind.i64.wrap (1 - x1.exp)) - ((itoaS (max x1.mant (IntKind.i64.wrap (0 - x1.mant)))).length : Int))))) ++ (itoaS (max x1.mant (IntKind.i64.wrap (0 - x1.mant))))).drop 0).take ((IntKind.i64.wrap ((((repS ([48] : Str) (max 0 (IntKind.i64.wrap ((IntKind.i64.wrap (1 - x1.exp)) - ((itoaS (max x1.mant (IntKind.i64.wrap (0 - x1.mant)))).length : Int))))) ++ (itoaS (max x1.mant (IntKind.i64.wrap (0 - x1.mant))))).length : Int) + x1.exp)).toNat - 0)).length + 1 ≤ 9223372036854775807)) (chk (decide ((0 : Int) ≤ (((repS ([48] : Str) (max 0 (IntKind.i64.wrap ((IntKind.i64.wrap (1 - x1.exp)) - ((itoaS (max x1.mant (IntKind.i64.wrap (0 - x1.mant)))).length : Int))))) ++ (itoaS (max x1.mant (IntKind.i64.wrap (0 - x1.mant))))).length : Int)) && decide ((((repS ([48] : Str) (max 0 (IntKind.i64.wrap ((IntKind.i64.wrap (1 - x1.exp)) - ((itoaS (max x1.mant (IntKind.i64.wrap (0 - x1.mant)))).length : Int))))) ++ (itoaS (max x1.mant (IntKind.i64.wrap (0 - x1.mant))))).length : Int) ≤ ((repS ([48] : Str) (max 0 (IntKind.i64.wrap ((IntKind.i64.wrap (1 - x1.exp)) - ((itoaS (max x1.mant (IntKind.i64.wrap (0 - x1.mant)))).length : Int))))) ++ (itoaS (max x1.mant (IntKind.i64.wrap (0 - x1.mant))))).length)) (chk (decide ((0 : Int) ≤ (IntKind.i64.wrap ((((repS ([48] : Str) (max 0 (IntKind.i64.wrap ((IntKind.i64.wrap (1 - x1.exp)) - ((itoaS (max x1.mant (IntKind.i64.wrap (0 - x1.mant)))).length : Int))))) ++ (itoaS (max x1.mant (IntKind.i64.wrap (0 - x1.mant))))).length : Int) + x1.exp))) && decide ((IntKind.i64.wrap ((((repS ([48] : Str) (max 0 (IntKind.i64.wrap ((IntKind.i64.wrap (1 - x1.exp)) - ((itoaS (max x1.mant (IntKind.i64.wrap (0 - x1.mant)))).length : Int))))) ++ (itoaS (max x1.mant (IntKind.i64.wrap (0 - x1.mant))))).length : Int) + x1.exp)) ≤ (((repS ([48] : Str) (max 0 (IntKind.i64.wrap ((IntKind.i64.wrap (1 - x1.exp)) - ((itoaS (max x1.mant (IntKind.i64.wrap (0 - x1.mant)))).length : Int))))) ++ (itoaS (max x1.mant (IntKind.i64.wrap (0 - x1.mant))))).length : Int))) (chk (decide ((((((repS ([48] : Str) (max 0 (IntKind.i64.wrap ((IntKind.i64.wrap (1 - x1.exp)) - ((itoaS (max x1.mant (IntKind.i64.wrap (0 - x1.mant)))).length : Int))))) ++ (itoaS (max x1.mant (IntKind.i64.wrap (0 - x1.mant))))).drop 0).take ((IntKind.i64.wrap ((((repS ([48] : Str) (max 0 (IntKind.i64.wrap ((IntKind.i64.wrap (1 - x1.exp)) - ((itoaS (max x1.mant (IntKind.i64.wrap (0 - x1.mant)))).length : Int))))) ++ (itoaS (max x1.mant (IntKind.i64.wrap (0 - x1.mant))))).length : Int) + x1.exp)).toNat - 0)) ++ ([46] : Str)).length + ((((repS ([48] : Str) (max 0 (IntKind.i64.wrap ((IntKind.i64.wrap (1 - x1.exp)) - ((itoaS (max x1.mant (IntKind.i64.wrap (0 - x1.mant)))).length : Int))))) ++ (itoaS (max x1.mant (IntKind.i64.wrap (0 - x1.mant))))).drop (IntKind.i64.wrap ((((repS ([48] : Str) (max 0 (IntKind.i64.wrap ((IntKind.i64.wrap (1 - x1.exp)) - ((itoaS (max x1.mant (IntKind.i64.wrap (0 - x1.mant)))).length : Int))))) ++ (itoaS (max x1.mant (IntKind.i64.wrap (0 - x1.mant))))).length : Int) + x1.exp)).toNat).take ((((repS ([48] : Str) (max 0 (IntKind.i64.wrap ((IntKind.i64.wrap (1 - x1.exp)) - ((itoaS (max x1.mant (IntKind.i64.wrap (0 - x1.mant)))).length : Int))))) ++ (itoaS (max x1.mant (IntKind.i64.wrap (0 - x1.mant))))).length : Int).toNat - (IntKind.i64.wrap ((((repS ([48] : Str) (max 0 (IntKind.i64.wrap ((IntKind.i64.wrap (1 - x1.exp)) - ((itoaS (max x1.mant (IntKind.i64.wrap (0 - x1.mant)))).length : Int))))) ++ (itoaS (max x1.mant (IntKind.i64.wrap (0 - x1.mant))))).length : Int) + x1.exp)).toNat)).length ≤ 9223372036854775807)) (strings_Builder_WriteString_df1e ((((((repS ([48] : Str) (max 0 (IntKind.i64.wrap ((IntKind.i64.wrap (1 - x1.exp)) - ((itoaS (max x1.mant (IntKind.i64.wrap (0 - x1.mant)))).length : Int))))) ++ (itoaS (max x1.mant (IntKind.i64.wrap (0 - x1.mant))))).drop 0).take ((IntKind.i64.wrap ((((repS ([48] : Str) (max 0 (IntKind.i64.wrap ((IntKind.i64.wrap (1 - x1.exp)) - ((itoaS (max x1.mant (IntKind.i64.wrap (0 - x1.mant)))).length : Int))))) ++ (itoaS (max x1.mant (IntKind.i64.wrap (0 - x1.mant))))).length : Int) + x1.exp)).toNat - 0)) ++ ([46] : Str)) ++ ((((repS ([48] : Str) (max 0 (IntKind.i64.wrap ((IntKind.i64.wrap (1 - x1.exp)) - ((itoaS (max x1.mant (IntKind.i64.wrap (0 - x1.mant)))).length : Int))))) ++ (itoaS (max x1.mant (IntKind.i64.wrap (0 - x1.mant))))).drop (IntKind.i64.wrap ((((repS ([48] : Str) (max 0 (IntKind.i64.wrap ((IntKind.i64.wrap (1 - x1.exp)) - ((itoaS (max x1.mant (IntKind.i64.wrap (0 - x1.mant)))).length : Int))))) ++ (itoaS (max x1.mant (IntKind.i64.wrap (0 - x1.mant))))).length : Int) + x1.exp)).toNat).take ((((repS ([48] : Str) (max 0 (IntKind.i64.wrap ((IntKind.i64.wrap (1 - x1.exp)) - ((itoaS (max x1.mant (IntKind.i64.wrap (0 - x1.mant)))).length : Int))))) ++ (itoaS (max x1.mant (IntKind.i64.wrap (0 - x1.mant))))).length : Int).toNat - (IntKind.i64.wrap ((((repS ([48] : Str) (max 0 (IntKind.i64.wrap ((IntKind.i64.wrap (1 - x1.exp)) - ((itoaS (max x1.mant (IntKind.i64.wrap (0 - x1.mant)))).length : Int))))) ++ (itoaS (max x1.mant (IntKind.i64.wrap (0 - x1.mant))))).length : Int) + x1.exp)).toNat))) y3 (fun y6 y7 => k0 (bstr y7))))))))))))) else (bif (decide (x1.exp ≥ (0 : Int))) then (chk (decide (0 ≤ x1.exp) && decide ((([48] : Str).length : Int) * x1.exp ≤ 140737488355328)) (chk (decide ((itoaS (max x1.mant (IntKind.i64.wrap (0 - x1.mant)))).length + (repS ([48] : Str) x1.exp).length ≤ 9223372036854775807)) (strings_Builder_WriteString_fb8e ((itoaS (max x1.mant (IntKind.i64.wrap (0 - x1.mant)))) ++ (repS ([48] : Str) x1.exp)) (fun y8 y9 => k0 (bstr y9))))) else (chk (decide (0 ≤ (max 0 (IntKind.i64.wrap ((IntKind.i64.wrap (1 - x1.exp)) - ((itoaS (max x1.mant (IntKind.i64.wrap (0 - x1.mant)))).length : Int))))) && decide ((([48] : Str).length : Int) * (max 0 (IntKind.i64.wrap ((IntKind.i64.wrap (1 - x1.exp)) - ((itoaS (max x1.mant (IntKind.i64.wrap (0 - x1.mant)))).length : Int)))) ≤ 140737488355328)) (chk (decide ((repS ([48] : Str) (max 0 (IntKind.i64.wrap ((IntKind.i64.wrap (1 - x1.exp)) - ((itoaS (max x1.mant (IntKind.i64.wrap (0 - x1.mant)))).length : Int))))).length + (itoaS (max x1.mant (IntKind.i64.wrap (0 - x1.mant)))).length ≤ 9223372036854775807)) (chk (decide ((0 : Int) ≤ (IntKind.i64.wrap ((((repS ([48] : Str) (max 0 (IntKind.i64.wrap ((IntKind.i64.wrap (1 - x1.exp)) - ((itoaS (max x1.mant (IntKind.i64.wrap (0 - x1.mant)))).length : Int))))) ++ (itoaS (max x1.mant (IntKind.i64.wrap (0 - x1.mant))))).length : Int) + x1.exp))) && decide ((IntKind.i64.wrap ((((repS ([48] : Str) (max 0 (IntKind.i64.wrap ((IntKind.i64.wrap (1 - x1.exp)) - ((itoaS (max x1.mant (IntKind.i64.wrap (0 - x1.mant)))).length : Int))))) ++ (itoaS (max x1.mant (IntKind.i64.wrap (0 - x1.mant))))).length : Int) + x1.exp)) ≤ ((repS ([48] : Str) (max 0 (IntKind.i64.wrap ((IntKind.i64.wrap (1 - x1.exp)) - ((itoaS (max x1.mant (IntKind.i64.wrap (0 - x1.mant)))).length : Int))))) ++ (itoaS (max x1.mant (IntKind.i64.wrap (0 - x1.mant))))).length)) (chk (decide ((0 : Int) ≤ (IntKind.i64.wrap ((((repS ([48] : Str) (max 0 (IntKind.i64.wrap ((IntKind.i64.wrap (1 - x1.exp)) - ((itoaS (max x1.mant (IntKind.i64.wrap (0 - x1.mant)))).length : Int))))) ++ (itoaS (max x1.mant (IntKind.i64.wrap (0 - x1.mant))))).length : Int) + x1.exp)))) (chk (decide (((((repS ([48] : Str) (max 0 (IntKind.i64.wrap ((IntKind.i64.wrap (1 - x1.exp)) - ((itoaS (max x1.mant (IntKind.i64.wrap (0 - x1.mant)))).length : Int))))) ++ (itoaS (max x1.mant (IntKind.i64.wrap (0 - x1.mant))))).drop 0).take ((IntKind.i64.wrap ((((repS ([48] : Str) (max 0 (IntKind.i64.wrap ((IntKind.i64.wrap (1 - x1.exp)) - ((itoaS (max x1.mant (IntKind.i64.wrap (0 - x1.mant)))).length : Int))))) ++ (itoaS (max x1.mant (IntKind.i64.wrap (0 - x1.mant))))).length : Int) + x1.exp)).toNat - 0)).length + 1 ≤ 9223372036854775807)) (chk (decide ((0 : Int) ≤ (((repS ([48] : Str) (max 0 (IntKind.i64.wrap ((IntKind.i64.wrap (1 - x1.exp)) - ((itoaS (max x1.mant (IntKind.i64.wrap (0 - x1.mant)))).length : Int))))) ++ (itoaS (max x1.mant (IntKind.i64.wrap (0 - x1.mant))))).length : Int)) && decide ((((repS ([48] : Str) (max 0 (IntKind.i64.wrap ((IntKind.i64.wrap (1 - x1.exp)) - ((itoaS (max x1.mant (IntKind.i64.wrap (0 - x1.mant)))).length : Int))))) ++ (itoaS (max x1.mant (IntKind.i64.wrap (0 - x1.mant))))).length : Int) ≤ ((repS ([48] : Str) (max 0 (IntKind.i64.wrap ((IntKind.i64.wrap (1 - x1.exp)) - ((itoaS (max x1.mant (IntKind.i64.wrap (0 - x1.mant)))).length : Int))))) ++ (itoaS (max x1.mant (IntKind.i64.wrap (0 - x1.mant))))).length)) (chk (decide ((0 : Int) ≤ (IntKind.i64.wrap ((((repS ([48] : Str) (max 0 (IntKind.i64.wrap ((IntKind.i64.wrap (1 - x1.exp)) - ((itoaS (max x1.mant (IntKind.i64.wrap (0 - x1.mant)))).length : Int))))) ++ (itoaS (max x1.mant (IntKind.i64.wrap (0 - x1.mant))))).length : Int) + x1.exp))) && decide ((IntKind.i64.wrap ((((repS ([48] : Str) (max 0 (IntKind.i64.wrap ((IntKind.i64.wrap (1 - x1.exp)) - ((itoaS (max x1.mant (IntKind.i64.wrap (0 - x1.mant)))).length : Int))))) ++ (itoaS (max x1.mant (IntKind.i64.wrap (0 - x1.mant))))).length : Int) + x1.exp)) ≤ (((repS ([48] : Str) (max 0 (IntKind.i64.wrap ((IntKind.i64.wrap (1 - x1.exp)) - ((itoaS (max x1.mant (IntKind.i64.wrap (0 - x1.mant)))).length : Int))))) ++ (itoaS (max x1.mant (IntKind.i64.wrap (0 - x1.mant))))).length : Int))) (chk (decide ((((((repS ([48] : Str) (max 0 (IntKind.i64.wrap ((IntKind.i64.wrap (1 - x1.exp)) - ((itoaS (max x1.mant (IntKind.i64.wrap (0 - x1.mant)))).length : Int))))) ++ (itoaS (max x1.mant (IntKind.i64.wrap (0 - x1.mant))))).drop 0).take ((IntKind.i64.wrap ((((repS ([48] : Str) (max 0 (IntKind.i64.wrap ((IntKind.i64.wrap (1 - x1.exp)) - ((itoaS (max x1.mant (IntKind.i64.wrap (0 - x1.mant)))).length : Int))))) ++ (itoaS (max x1.mant (IntKind.i64.wrap (0 - x1.mant))))).length : Int) + x1.exp)).toNat - 0)) ++ ([46] : Str)).length + ((((repS ([48] : Str) (max 0 (IntKind.i64.wrap ((IntKind.i64.wrap (1 - x1.exp)) - ((itoaS (max x1.mant (IntKind.i64.wrap (0 - x1.mant)))).length : Int))))) ++ (itoaS (max x1.mant (IntKind.i64.wrap (0 - x1.mant))))).drop (IntKind.i64.wrap ((((repS ([48] : Str) (max 0 (IntKind.i64.wrap ((IntKind.i64.wrap (1 - x1.exp)) - ((itoaS (max x1.mant (IntKind.i64.wrap (0 - x1.mant)))).length : Int))))) ++ (itoaS (max x1.mant (IntKind.i64.wrap (0 - x1.mant))))).length : Int) + x1.exp)).toNat).take ((((repS ([48] : Str) (max 0 (IntKind.i64.wrap ((IntKind.i64.wrap (1 - x1.exp)) - ((itoaS (max x1.mant (IntKind.i64.wrap (0 - x1.mant)))).length : Int))))) ++ (itoaS (max x1.mant (IntKind.i64.wrap (0 - x1.mant))))).length : Int).toNat - (IntKind.i64.wrap ((((repS ([48] : Str) (max 0 (IntKind.i64.wrap ((IntKind.i64.wrap (1 - x1.exp)) - ((itoaS (max x1.mant (IntKind.i64.wrap (0 - x1.mant)))).length : Int))))) ++ (itoaS (max x1.mant (IntKind.i64.wrap (0 - x1.mant))))).length : Int) + x1.exp)).toNat)).length ≤ 9223372036854775807)) (strings_Builder_WriteString_fb8e ((((((repS ([48] : Str) (max 0 (IntKind.i64.wrap ((IntKind.i64.wrap (1 - x1.exp)) - ((itoaS (max x1.mant (IntKind.i64.wrap (0 - x1.mant)))).length : Int))))) ++ (itoaS (max x1.mant (IntKind.i64.wrap (0 - x1.mant))))).drop 0).take ((IntKind.i64.wrap ((((repS ([48] : Str) (max 0 (IntKind.i64.wrap ((IntKind.i64.wrap (1 - x1.exp)) - ((itoaS (max x1.mant (IntKind.i64.wrap (0 - x1.mant)))).length : Int))))) ++ (itoaS (max x1.mant (IntKind.i64.wrap (0 - x1.mant))))).length : Int) + x1.exp)).toNat - 0)) ++ ([46] : Str)) ++ ((((repS ([48] : Str) (max 0 (IntKind.i64.wrap ((IntKind.i64.wrap (1 - x1.exp)) - ((itoaS (max x1.mant (IntKind.i64.wrap (0 - x1.mant)))).length : Int))))) ++ (itoaS (max x1.mant (IntKind.i64.wrap (0 - x1.mant))))).drop (IntKind.i64.wrap ((((repS ([48] : Str) (max 0 (IntKind.i64.wrap ((IntKind.i64.wrap (1 - x1.exp)) - ((itoaS (max x1.mant (IntKind.i64.wrap (0 - x1.mant)))).length : Int))))) ++ (itoaS (max x1.mant (IntKind.i64.wrap (0 - x1.mant))))).length : Int) + x1.exp)).toNat).take ((((repS ([48] : Str) (max 0 (IntKind.i64.wrap ((IntKind.i64.wrap (1 - x1.exp)) - ((itoaS (max x1.mant (IntKind.i64.wrap (0 - x1.mant)))).length : Int))))) ++ (itoaS (max x1.mant (IntKind.i64.wrap (0 - x1.mant))))).length : Int).toNat - (IntKind.i64.wrap ((((repS ([48] : Str) (max 0 (IntKind.i64.wrap ((IntKind.i64.wrap (1 - x1.exp)) - ((itoaS (max x1.mant (IntKind.i64.wrap (0 - x1.mant)))).length : Int))))) ++ (itoaS (max x1.mant (IntKind.i64.wrap (0 - x1.mant))))).length : Int) + x1.exp)).toNat))) (fun y10 y11 => k0 (bstr y11))))))))))))))
noncomputable def decimal_Print {R : Type} : decimal_Print_ty R := fun x1 k0 => decimal_Print_X decimal_Right strings_Builder_WriteByte_b66c strings_Builder_WriteString_df1e strings_Builder_WriteString_fb8e x1 k0
theorem decimal_Print_ok {R : Type} (decimal_Right : decimal_Right_ty R) (strings_Builder_WriteByte_b66c : strings_Builder_WriteByte_b66c_ty R) (strings_Builder_WriteString_df1e : strings_Builder_WriteString_df1e_ty R) (strings_Builder_WriteString_fb8e : strings_Builder_WriteString_fb8e_ty R) (x1 : Dcm) (k : V → Heap → Option R) : funK tt (decimal_Print_E R decimal_Right strings_Builder_WriteByte_b66c strings_Builder_WriteString_df1e strings_Builder_WriteString_fb8e) (decimal_Print_T R) false Tryd.f28 (codeOf Tryd.f28) [.agg [.int .i64 x1.mant, .int .i64 x1.exp]] [] k =
    decimal_Print_X decimal_Right strings_Builder_WriteByte_b66c strings_Builder_WriteString_df1e strings_Builder_WriteString_fb8e x1 (fun q0 => k (.str q0) []) := by kernel_rfl
theorem decimal_Print_loops (R : Type) : ∀ a ∈ loopsOf (codeOf Tryd.f28), LoopOk tt (decimal_Print_E R decimal_Right strings_Builder_WriteByte_b66c strings_Builder_WriteString_df1e strings_Builder_WriteString_fb8e) (decimal_Print_T R) 0 a := by
  refine loops_ok 0 (by kernel_rfl) fun i hi => ?_
  omega
theorem decimal_Print_S_ok (R : Type) (other : Yard.Spec R) (ho : Yard.Spec.Ok Tryd.prog 28 other) : Yard.Spec.Ok Tryd.prog 28 (specBy decimal_Print_p decimal_Print_q (decimal_Print_rr decimal_Print) other) :=
  specBy_ok ho (funK_sound TT mixed (decimal_Print_EOk R) (keep := false) rfl rfl rfl rfl 0 (decimal_Print_loops R)) fun (x : Pat.dens decimal_Print_p) (y : HPat.dens decimal_Print_q) k => decimal_Print_ok decimal_Right strings_Builder_WriteByte_b66c strings_Builder_WriteString_df1e strings_Builder_WriteString_fb8e (⟨x.1.1, x.1.2.1⟩ : Dcm) k

/-! ### humpyard/humpyardlaw01.awake -/
abbrev law01_awake_ty (R : Type) : Type := (Bool → Option R) → Option R
abbrev law01_awake_p : List Pat := []
abbrev law01_awake_q : List HPat := []
noncomputable def law01_awake_rr {R : Type} (fn : law01_awake_ty R) : Pat.dens law01_awake_p → HPat.dens law01_awake_q → (V → Heap → Option R) → Option R := fun x y k => fn (fun q0 => k (.bool q0) [])
noncomputable def law01_awake_E (R : Type) (decimal_Print : decimal_Print_ty R) (decimal_Parse : decimal_Parse_ty R) (decimal_Right : decimal_Right_ty R) (decimal_Make : decimal_Make_ty R) (decimal_Int : decimal_Int_ty R) : Env R := fun i => match i with
  | 28 => some (true, (specBy decimal_Print_p decimal_Print_q (decimal_Print_rr decimal_Print) specNo))
  | 29 => some (true, (specBy decimal_Parse_p decimal_Parse_q (decimal_Parse_rr decimal_Parse) specNo))
  | 30 => some (true, (specBy decimal_Right_p decimal_Right_q (decimal_Right_rr decimal_Right) specNo))
  | 32 => some (true, (specBy decimal_Make_p decimal_Make_q (decimal_Make_rr decimal_Make) specNo))
  | 39 => some (true, (specBy decimal_Int_p decimal_Int_q (decimal_Int_rr decimal_Int) specNo))
  | _ => none
theorem law01_awake_EOk (R : Type) : EOk Tryd.prog (law01_awake_E R decimal_Print decimal_Parse decimal_Right decimal_Make decimal_Int) := by
  intro i b sp h
  unfold law01_awake_E at h
  split at h
  · cases h; exact ⟨(decimal_Print_S_ok R _ (specNo_ok _)), fun h => nomatch h⟩
  · cases h; exact ⟨(decimal_Parse_S_ok R _ (specNo_ok _)), fun h => nomatch h⟩
  · cases h; exact ⟨(decimal_Right_S_ok R _ (specNo_ok _)), fun h => nomatch h⟩
  · cases h; exact ⟨(decimal_Make_S_ok R _ (specNo_ok _)), fun h => nomatch h⟩
  · cases h; exact ⟨(decimal_Int_S_ok R _ (specNo_ok _)), fun h => nomatch h⟩
  · cases h

noncomputable def law01_awake_T (R : Type) : Nat → Option (Hint × LSpec R) := fun i => match i with
  | _ => none

noncomputable def law01_awake_X {R : Type} (decimal_Print : decimal_Print_ty R) (decimal_Parse : decimal_Parse_ty R) (decimal_Right : decimal_Right_ty R) (decimal_Make : decimal_Make_ty R) (decimal_Int : decimal_Int_ty R) (k0 : Bool → Option R) : Option R :=
  decimal_Parse ([45, 49, 46, 53, 48, 101, 49] : Str) (fun y1 y2 => decimal_Make 1200 (-1) (fun y3 y4 => decimal_Int y1 (fun y5 y6 => bif y2 then (bif (y1.mant == (-15) && (y1.exp == 0 && true)) then (bif y4 then (bif (y3.mant == 12 && (y3.exp == 1 && true)) then (decimal_Print (⟨25, (-3)⟩ : Dcm) (fun y7 => bif (y7 == ([48, 46, 48, 50, 53] : Str)) then (bif (y5 == (-15)) then (bif y6 then (decimal_Right y1 (fun y8 => k0 y8)) else (k0 false)) else (k0 false)) else (k0 false))) else (k0 false)) else (k0 false)) else (k0 false)) else (k0 false))))
noncomputable def law01_awake {R : Type} : law01_awake_ty R := fun  k0 => law01_awake_X decimal_Print decimal_Parse decimal_Right decimal_Make decimal_Int  k0
theorem law01_awake_ok {R : Type} (decimal_Print : decimal_Print_ty R) (decimal_Parse : decimal_Parse_ty R) (decimal_Right : decimal_Right_ty R) (decimal_Make : decimal_Make_ty R) (decimal_Int : decimal_Int_ty R) (k : V → Heap → Option R) : funK tt (law01_awake_E R decimal_Print decimal_Parse decimal_Right decimal_Make decimal_Int) (law01_awake_T R) false Tryd.f26 (codeOf Tryd.f26) [] [] k =
    law01_awake_X decimal_Print decimal_Parse decimal_Right decimal_Make decimal_Int  (fun q0 => k (.bool q0) []) := by kernel_rfl
theorem law01_awake_loops (R : Type) : ∀ a ∈ loopsOf (codeOf Tryd.f26), LoopOk tt (law01_awake_E R decimal_Print decimal_Parse decimal_Right decimal_Make decimal_Int) (law01_awake_T R) 0 a := by
  refine loops_ok 0 (by kernel_rfl) fun i hi => ?_
  omega
theorem law01_awake_S_ok (R : Type) (other : Yard.Spec R) (ho : Yard.Spec.Ok Tryd.prog 26 other) : Yard.Spec.Ok Tryd.prog 26 (specBy law01_awake_p law01_awake_q (law01_awake_rr law01_awake) other) :=
  specBy_ok ho (funK_sound TT mixed (law01_awake_EOk R) (keep := false) rfl rfl rfl rfl 0 (law01_awake_loops R)) fun (x : Pat.dens law01_awake_p) (y : HPat.dens law01_awake_q) k => law01_awake_ok decimal_Print decimal_Parse decimal_Right decimal_Make decimal_Int  k

end Go.Proofs.YtifgegmnngfckaaDoor

set_option maxRecDepth 100000
namespace Go.Proofs.YtifgegmnngfckaaDoor
open Go Go.Yard
theorem awake01 {R : Type} (k : Bool → Option R) : law01_awake k = k true := by kernel_rfl
end Go.Proofs.YtifgegmnngfckaaDoor

set_option maxRecDepth 100000
namespace Go.Yard
open Go.Lib

def vr (c : Nat) : Prop := c < 55296 ∨ (57344 ≤ c ∧ c ≤ 1114111)
instance (c : Nat) : Decidable (vr c) := inferInstanceAs (Decidable (_ ∨ _))

def enc (c : Nat) : Str := encodeRune (c : Int)

theorem u8_nat (n : Nat) (h : n < 256) : (UInt8.ofNat n).toNat = n := by
  simp only [UInt8.toNat_ofNat']
  omega

def good (l : Str) : Prop := ¬ ((decodeL l).1 = 65533 ∧ (decodeL l).2 = 1)
instance (l : Str) : Decidable (good l) := inferInstanceAs (Decidable (¬ _))

def encL (rs : List Nat) : Str := rs.flatMap enc

theorem getD_app_lt {s t : Str} {i : Nat} (h : i < s.length) : (s ++ t).getD i 0 = s.getD i 0 := by
  simp [List.getD, List.getElem?_append_left h]
theorem getD_app_at {s t : Str} {x : UInt8} : (s ++ x :: t).getD s.length 0 = x := by
  simp [List.getD]

end Go.Yard

namespace Go.Yard

theorem chk_pos {R : Type} {b : Bool} {k : Option R} (h : b = true) : chk b k = k := by subst h; rfl

theorem wrap_id {n : Int} (h1 : -9223372036854775808 ≤ n) (h2 : n ≤ 9223372036854775807) : IntKind.i64.wrap n = n := by
  simp only [IntKind.wrap, IntKind.bits, IntKind.signed, IntKind.min, IntKind.max]
  simp
  omega

theorem getD_at {α : Type} {l : List α} {i : Nat} (h : i < l.length) (d : α) : l.getD i d = l[i] := by simp [List.getD, h]
end Go.Yard

set_option linter.unusedVariables false
set_option maxRecDepth 100000
namespace Go.Proofs.YtifgegmnngfckaaDoor
open Go Go.Yard

def I64 (n : Int) : Prop := -9223372036854775808 ≤ n ∧ n ≤ 9223372036854775807
theorem i64_has {n : Int} : IntKind.i64.has n ↔ I64 n := by
  unfold IntKind.has I64
  simp only [IntKind.min, IntKind.max, IntKind.bits, IntKind.signed]
  simp

theorem pick_raw {R : Type} (c n : Int) (hc : I64 c) (h0 : 0 < n) (hn : n ≤ 9223372036854775807) : ∃ r : Int, 0 ≤ r ∧ r < n ∧ ∀ k : Int → Option R,
    (bif (decide (c < (0 : Int))) then (chk (!decide (n = 0)) (k (Int.tmod (IntKind.i64.wrap (0 - (IntKind.i64.wrap (c + 1)))) n))) else (chk (!decide (n = 0)) (k (Int.tmod c n)))) = k r := by
  obtain ⟨h1, h2⟩ := hc
  have hz : (!decide (n = 0)) = true := by simp; omega
  by_cases h : c < 0
  · refine ⟨Int.tmod (0 - (c + 1)) n, Int.tmod_nonneg _ (by omega), Int.tmod_lt_of_pos _ h0, fun k => ?_⟩
    have hd : decide (c < (0 : Int)) = true := by simpa using h
    rw [hd, cond_true, chk_pos hz, wrap_id (n := c + 1) (by omega) (by omega), wrap_id (by omega) (by omega)]
  · refine ⟨Int.tmod c n, Int.tmod_nonneg _ (by omega), Int.tmod_lt_of_pos _ h0, fun k => ?_⟩
    have hd : decide (c < (0 : Int)) = false := by simpa using h
    rw [hd, cond_false, chk_pos hz]

theorem dtrue {p : Prop} [Decidable p] (h : p) : decide p = true := decide_eq_true h
theorem dfalse {p : Prop} [Decidable p] (h : ¬ p) : decide p = false := decide_eq_false h

end Go.Proofs.YtifgegmnngfckaaDoor

set_option linter.unusedVariables false
namespace Go.Proofs.YtifgegmnngfckaaDoor
open Go Go.Yard

end Go.Proofs.YtifgegmnngfckaaDoor

/-
  Functions of the program as pure Lean functions, and the ties; printed by wip/tools/emit.py.
-/
set_option maxRecDepth 100000
set_option linter.unusedVariables false
namespace Go.Proofs.YtifgegmnngfckaaDoor
open Go Go.Yard

/-! ### humpyard/humpyardlaw01.pick -/
abbrev law01_pick_ty (R : Type) : Type := Int → Int → (Int → Option R) → Option R
abbrev law01_pick_p : List Pat := [.leaf (.int .i64), .leaf (.int .i64)]
abbrev law01_pick_q : List HPat := []
noncomputable def law01_pick_rr {R : Type} (fn : law01_pick_ty R) : Pat.dens law01_pick_p → HPat.dens law01_pick_q → (V → Heap → Option R) → Option R := fun x y k => fn x.1 x.2.1 (fun q0 => k (.int .i64 q0) [])
noncomputable def law01_pick_E (R : Type) : Env R := fun i => match i with
  | _ => none
theorem law01_pick_EOk (R : Type) : EOk Tryd.prog (law01_pick_E R) := by
  intro i b sp h
  unfold law01_pick_E at h
  split at h
  · cases h

noncomputable def law01_pick_T (R : Type) : Nat → Option (Hint × LSpec R) := fun i => match i with
  | _ => none

noncomputable def law01_pick_X {R : Type} (x1 : Int) (x2 : Int) (k0 : Int → Option R) : Option R :=
  bif (decide (x1 < (0 : Int))) then (chk (!decide (x2 = 0)) (k0 (Int.tmod (IntKind.i64.wrap (0 - (IntKind.i64.wrap (x1 + 1)))) x2))) else (chk (!decide (x2 = 0)) (k0 (Int.tmod x1 x2)))
noncomputable def law01_pick {R : Type} : law01_pick_ty R := fun x1 x2 k0 => law01_pick_X x1 x2 k0
theorem law01_pick_ok {R : Type} (x1 : Int) (x2 : Int) (k : V → Heap → Option R) : funK tt (law01_pick_E R) (law01_pick_T R) false Tryd.f31 (codeOf Tryd.f31) [.int .i64 x1, .int .i64 x2] [] k =
    law01_pick_X x1 x2 (fun q0 => k (.int .i64 q0) []) := by kernel_rfl
theorem law01_pick_loops (R : Type) : ∀ a ∈ loopsOf (codeOf Tryd.f31), LoopOk tt (law01_pick_E R) (law01_pick_T R) 0 a := by
  refine loops_ok 0 (by kernel_rfl) fun i hi => ?_
  omega
theorem law01_pick_S_ok (R : Type) (other : Yard.Spec R) (ho : Yard.Spec.Ok Tryd.prog 31 other) : Yard.Spec.Ok Tryd.prog 31 (specBy law01_pick_p law01_pick_q (law01_pick_rr law01_pick) other) :=
  specBy_ok ho (funK_sound TT mixed (law01_pick_EOk R) (keep := false) rfl rfl rfl rfl 0 (law01_pick_loops R)) fun (x : Pat.dens law01_pick_p) (y : HPat.dens law01_pick_q) k => law01_pick_ok x.1 x.2.1 k

/-! ### humpyard/humpyardlaw01.Fit -/
abbrev law01_Fit_ty (R : Type) : Type := Int → Int → (Dcm → Option R) → Option R
abbrev law01_Fit_p : List Pat := [.leaf (.int .i64), .leaf (.int .i64)]
abbrev law01_Fit_q : List HPat := []
noncomputable def law01_Fit_rr {R : Type} (fn : law01_Fit_ty R) : Pat.dens law01_Fit_p → HPat.dens law01_Fit_q → (V → Heap → Option R) → Option R := fun x y k => fn x.1 x.2.1 (fun q0 => k (.agg [.int .i64 q0.mant, .int .i64 q0.exp]) [])
abbrev law01_Fit_3_0_ty (R : Type) : Type := Nat → Int → Int → Dcm → (Int → Int → Dcm → Option R) → Option R
noncomputable def law01_Fit_E (R : Type) (law01_pick : law01_pick_ty R) : Env R := fun i => match i with
  | 31 => some (true, (specBy law01_pick_p law01_pick_q (law01_pick_rr law01_pick) specNo))
  | _ => none
theorem law01_Fit_EOk (R : Type) : EOk Tryd.prog (law01_Fit_E R law01_pick) := by
  intro i b sp h
  unfold law01_Fit_E at h
  split at h
  · cases h; exact ⟨(law01_pick_S_ok R _ (specNo_ok _)), fun h => nomatch h⟩
  · cases h

noncomputable def law01_Fit_3_0_B {R : Type} (rec' : Int → Int → Dcm → Option R) (x5 : Int) (x6 : Int) (x7 : Dcm) (e0 : Int → Int → Dcm → Option R) : Option R :=
  bif (x5 != 0) then (bif ((Int.tmod x5 10) == 0) then (rec' (IntKind.i64.wrap (Int.tdiv x5 10)) x6 x7) else (e0 x5 x6 x7)) else (e0 x5 x6 x7)
noncomputable def law01_Fit_3_0_L {R : Type} : law01_Fit_3_0_ty R
  | 0, _, _, _, _ => none
  | n + 1, x0', x1', x2', e0 => law01_Fit_3_0_B (fun x0' x1' x2' => law01_Fit_3_0_L n x0' x1' x2' e0) x0' x1' x2' e0
noncomputable def law01_Fit_3_0_h : Hint := { live := [4, 5, 6], own := [], rows := [], cells := [], drop := [], out := [4, 5, 6] }
abbrev law01_Fit_3_0_D : Type := Int × Int × Dcm
noncomputable def law01_Fit_3_0_enc : law01_Fit_3_0_D → St := fun d => ⟨[.undef, .undef, .undef, .undef, .ptr 0 0, .int .i64 d.1, .int .i64 d.2.1, .undef, .undef, .undef, .undef, .undef, .undef, .undef, .undef, .undef, .undef, .undef, .undef, .undef, .undef, .undef, .undef, .undef, .undef, .undef, .undef], [.cells [.int .i64 d.2.2.mant, .int .i64 d.2.2.exp]]⟩
noncomputable def law01_Fit_3_0_x0 {R : Type} (K : Ex → St → Option R) (q0 : Int) (q1 : Int) (q2 : Dcm) : Option R := K (.exit 0) ⟨[.undef, .undef, .undef, .undef, .ptr 0 0, .int .i64 q0, .int .i64 q1, .undef, .undef, .undef, .undef, .undef, .undef, .undef, .undef, .undef, .undef, .undef, .undef, .undef, .undef, .undef, .undef, .undef, .undef, .undef, .undef], [.cells [.int .i64 q2.mant, .int .i64 q2.exp]]⟩
noncomputable def law01_Fit_3_0_s {R : Type} (K : Ex → St → Option R) (rc : law01_Fit_3_0_D → Option R) (d : law01_Fit_3_0_D) : Option R := law01_Fit_3_0_B (fun z0 z1 z2 => rc (z0, z1, z2)) d.1 d.2.1 d.2.2 (law01_Fit_3_0_x0 K)
noncomputable def law01_Fit_3_0_A {R : Type} (K : Ex → St → Option R) (n : Nat) (d : law01_Fit_3_0_D) : Option R := law01_Fit_3_0_L n d.1 d.2.1 d.2.2 (law01_Fit_3_0_x0 K)
abbrev law01_Fit_3_0_p : List Pat := [.leaf (.undef), .leaf (.undef), .leaf (.undef), .leaf (.undef), .leaf (.ptr 0 0), .leaf (.int .i64), .leaf (.int .i64), .leaf (.undef), .leaf (.undef), .leaf (.undef), .leaf (.undef), .leaf (.undef), .leaf (.undef), .leaf (.undef), .leaf (.undef), .leaf (.undef), .leaf (.undef), .leaf (.undef), .leaf (.undef), .leaf (.undef), .leaf (.undef), .leaf (.undef), .leaf (.undef), .leaf (.undef), .leaf (.undef), .leaf (.undef), .leaf (.undef)]
abbrev law01_Fit_3_0_q : List HPat := [.cells [.int .i64, .int .i64]]
noncomputable def law01_Fit_3_0_f (x : Pat.dens law01_Fit_3_0_p) (y : HPat.dens law01_Fit_3_0_q) : Nat := (Int.natAbs x.2.2.2.2.2.1 + Int.natAbs x.2.2.2.2.2.2.1 + Dcm.fu (⟨y.1.1, y.1.2.1⟩ : Dcm) + 64)
noncomputable def law01_Fit_3_0_d (x : Pat.dens law01_Fit_3_0_p) (y : HPat.dens law01_Fit_3_0_q) : law01_Fit_3_0_D := (x.2.2.2.2.2.1, x.2.2.2.2.2.2.1, (⟨y.1.1, y.1.2.1⟩ : Dcm))
noncomputable def law01_Fit_3_0_rr {R : Type} (L : law01_Fit_3_0_ty R) : Pat.dens law01_Fit_3_0_p → HPat.dens law01_Fit_3_0_q → (Ex → St → Option R) → Option R := fun x y K => L (law01_Fit_3_0_f x y) x.2.2.2.2.2.1 x.2.2.2.2.2.2.1 (⟨y.1.1, y.1.2.1⟩ : Dcm) (law01_Fit_3_0_x0 K)
noncomputable def law01_Fit_T (R : Type) (law01_Fit_3_0_L : law01_Fit_3_0_ty R) : Nat → Option (Hint × LSpec R) := fun i => match i with
  | 3 => some (law01_Fit_3_0_h, (loopBy law01_Fit_3_0_p law01_Fit_3_0_q (law01_Fit_3_0_rr law01_Fit_3_0_L) loopNo))
  | _ => none

theorem law01_Fit_3_0_B_ok {R : Type} (law01_pick : law01_pick_ty R) (law01_Fit_3_0_L : law01_Fit_3_0_ty R) (K : Ex → St → Option R) (rc : St → Option R) (d : law01_Fit_3_0_D) : roundOf tt (law01_Fit_E R law01_pick) (law01_Fit_T R law01_Fit_3_0_L) 0 ((loopsOf (codeOf Tryd.f27)).getD 0 .skip) law01_Fit_3_0_h (law01_Fit_3_0_enc d) rc K = law01_Fit_3_0_s K (fun d => rc (law01_Fit_3_0_enc d)) d := by kernel_rfl
theorem law01_Fit_3_0_A_succ {R : Type} (K : Ex → St → Option R) (n : Nat) (d : law01_Fit_3_0_D) : law01_Fit_3_0_A K (n + 1) d = law01_Fit_3_0_s K (law01_Fit_3_0_A K n) d := by kernel_rfl
theorem law01_Fit_3_0_A_zero {R : Type} (K : Ex → St → Option R) (d : law01_Fit_3_0_D) : law01_Fit_3_0_A K 0 d = none := by kernel_rfl
theorem law01_Fit_3_0_e_ok (x : Pat.dens law01_Fit_3_0_p) (y : HPat.dens law01_Fit_3_0_q) : (⟨Pat.encL law01_Fit_3_0_p x, HPat.encL law01_Fit_3_0_q y⟩ : St) = law01_Fit_3_0_enc (law01_Fit_3_0_d x y) := by kernel_rfl
theorem law01_Fit_3_0_r_ok {R : Type} (x : Pat.dens law01_Fit_3_0_p) (y : HPat.dens law01_Fit_3_0_q) (K : Ex → St → Option R) : law01_Fit_3_0_rr (law01_Fit_3_0_L) x y K = law01_Fit_3_0_A K (law01_Fit_3_0_f x y) (law01_Fit_3_0_d x y) := by kernel_rfl
theorem law01_Fit_3_0_ok {R : Type} (other : LSpec R) (ho : LsOk tt (law01_Fit_E R law01_pick) (law01_Fit_T R law01_Fit_3_0_L) 0 ((loopsOf (codeOf Tryd.f27)).getD 0 .skip) law01_Fit_3_0_h other) : LsOk tt (law01_Fit_E R law01_pick) (law01_Fit_T R law01_Fit_3_0_L) 0 ((loopsOf (codeOf Tryd.f27)).getD 0 .skip) law01_Fit_3_0_h (loopBy law01_Fit_3_0_p law01_Fit_3_0_q (law01_Fit_3_0_rr (law01_Fit_3_0_L)) other) :=
  loopBy_tie (A := law01_Fit_3_0_A) ho (loop_tie law01_Fit_3_0_enc (law01_Fit_3_0_s) (law01_Fit_3_0_A) (law01_Fit_3_0_A_zero) (law01_Fit_3_0_B_ok law01_pick law01_Fit_3_0_L) (law01_Fit_3_0_A_succ)) law01_Fit_3_0_f law01_Fit_3_0_d law01_Fit_3_0_e_ok (law01_Fit_3_0_r_ok)

noncomputable def law01_Fit_X {R : Type} (law01_pick : law01_pick_ty R) (law01_Fit_3_0_L : law01_Fit_3_0_ty R) (x1 : Int) (x2 : Int) (k0 : Dcm → Option R) : Option R :=
  law01_pick x1 2000000000000001 (fun y3 => law01_pick x2 19 (fun y4 => law01_Fit_3_0_L (Int.natAbs (IntKind.i64.wrap (y3 - 1000000000000000)) + Int.natAbs (IntKind.i64.wrap (y4 - 9)) + Dcm.fu (⟨0, 0⟩ : Dcm) + 64) (IntKind.i64.wrap (y3 - 1000000000000000)) (IntKind.i64.wrap (y4 - 9)) (⟨0, 0⟩ : Dcm) (fun y9 y10 y11 => bif (y9 == 0) then (k0 (⟨y9, 0⟩ : Dcm)) else (k0 (⟨y9, y10⟩ : Dcm)))))
noncomputable def law01_Fit {R : Type} : law01_Fit_ty R := fun x1 x2 k0 => law01_Fit_X law01_pick law01_Fit_3_0_L x1 x2 k0
theorem law01_Fit_ok {R : Type} (law01_pick : law01_pick_ty R) (law01_Fit_3_0_L : law01_Fit_3_0_ty R) (x1 : Int) (x2 : Int) (k : V → Heap → Option R) : funK tt (law01_Fit_E R law01_pick) (law01_Fit_T R law01_Fit_3_0_L) false Tryd.f27 (codeOf Tryd.f27) [.int .i64 x1, .int .i64 x2] [] k =
    law01_Fit_X law01_pick law01_Fit_3_0_L x1 x2 (fun q0 => k (.agg [.int .i64 q0.mant, .int .i64 q0.exp]) []) := by kernel_rfl
theorem law01_Fit_loops (R : Type) : ∀ a ∈ loopsOf (codeOf Tryd.f27), LoopOk tt (law01_Fit_E R law01_pick) (law01_Fit_T R law01_Fit_3_0_L) 0 a := by
  refine loops_ok 1 (by kernel_rfl) fun i hi => ?_
  match i, hi with
  | 0, _ => exact loopOk_some (by kernel_rfl) (law01_Fit_3_0_ok _ loopNo_ok)
  | n + 1, hi => omega
theorem law01_Fit_S_ok (R : Type) (other : Yard.Spec R) (ho : Yard.Spec.Ok Tryd.prog 27 other) : Yard.Spec.Ok Tryd.prog 27 (specBy law01_Fit_p law01_Fit_q (law01_Fit_rr law01_Fit) other) :=
  specBy_ok ho (funK_sound TT mixed (law01_Fit_EOk R) (keep := false) rfl rfl rfl rfl 0 (law01_Fit_loops R)) fun (x : Pat.dens law01_Fit_p) (y : HPat.dens law01_Fit_q) k => law01_Fit_ok law01_pick law01_Fit_3_0_L x.1 x.2.1 k

end Go.Proofs.YtifgegmnngfckaaDoor

/-
  Functions of the program as pure Lean functions, and the ties; printed by wip/tools/emit.py.
-/
set_option maxRecDepth 100000
set_option linter.unusedVariables false
namespace Go.Proofs.YtifgegmnngfckaaDoor
open Go Go.Yard

/-! ### cmp.isNaN[int] -/
abbrev cmp_isNaN_int_ty (R : Type) : Type := Int → (Bool → Option R) → Option R
abbrev cmp_isNaN_int_p : List Pat := [.leaf (.int .i64)]
abbrev cmp_isNaN_int_q : List HPat := []
noncomputable def cmp_isNaN_int_rr {R : Type} (fn : cmp_isNaN_int_ty R) : Pat.dens cmp_isNaN_int_p → HPat.dens cmp_isNaN_int_q → (V → Heap → Option R) → Option R := fun x y k => fn x.1 (fun q0 => k (.bool q0) [])
noncomputable def cmp_isNaN_int_E (R : Type) : Env R := fun i => match i with
  | _ => none
theorem cmp_isNaN_int_EOk (R : Type) : EOk Tryd.prog (cmp_isNaN_int_E R) := by
  intro i b sp h
  unfold cmp_isNaN_int_E at h
  split at h
  · cases h

noncomputable def cmp_isNaN_int_T (R : Type) : Nat → Option (Hint × LSpec R) := fun i => match i with
  | _ => none

noncomputable def cmp_isNaN_int_X {R : Type} (x1 : Int) (k0 : Bool → Option R) : Option R :=
  k0 (x1 != x1)
noncomputable def cmp_isNaN_int {R : Type} : cmp_isNaN_int_ty R := fun x1 k0 => cmp_isNaN_int_X x1 k0
theorem cmp_isNaN_int_ok {R : Type} (x1 : Int) (k : V → Heap → Option R) : funK tt (cmp_isNaN_int_E R) (cmp_isNaN_int_T R) false Tryd.f95 (codeOf Tryd.f95) [.int .i64 x1] [] k =
    cmp_isNaN_int_X x1 (fun q0 => k (.bool q0) []) := by kernel_rfl
theorem cmp_isNaN_int_loops (R : Type) : ∀ a ∈ loopsOf (codeOf Tryd.f95), LoopOk tt (cmp_isNaN_int_E R) (cmp_isNaN_int_T R) 0 a := by
  refine loops_ok 0 (by kernel_rfl) fun i hi => ?_
  omega
theorem cmp_isNaN_int_S_ok (R : Type) (other : Yard.Spec R) (ho : Yard.Spec.Ok Tryd.prog 95 other) : Yard.Spec.Ok Tryd.prog 95 (specBy cmp_isNaN_int_p cmp_isNaN_int_q (cmp_isNaN_int_rr cmp_isNaN_int) other) :=
  specBy_ok ho (funK_sound TT mixed (cmp_isNaN_int_EOk R) (keep := false) rfl rfl rfl rfl 0 (cmp_isNaN_int_loops R)) fun (x : Pat.dens cmp_isNaN_int_p) (y : HPat.dens cmp_isNaN_int_q) k => cmp_isNaN_int_ok x.1 k

/-! ### cmp.Compare[int] -/
abbrev cmp_Compare_int_ty (R : Type) : Type := Int → Int → (Int → Option R) → Option R
abbrev cmp_Compare_int_p : List Pat := [.leaf (.int .i64), .leaf (.int .i64)]
abbrev cmp_Compare_int_q : List HPat := []
noncomputable def cmp_Compare_int_rr {R : Type} (fn : cmp_Compare_int_ty R) : Pat.dens cmp_Compare_int_p → HPat.dens cmp_Compare_int_q → (V → Heap → Option R) → Option R := fun x y k => fn x.1 x.2.1 (fun q0 => k (.int .i64 q0) [])
noncomputable def cmp_Compare_int_E (R : Type) (cmp_isNaN_int : cmp_isNaN_int_ty R) : Env R := fun i => match i with
  | 95 => some (true, (specBy cmp_isNaN_int_p cmp_isNaN_int_q (cmp_isNaN_int_rr cmp_isNaN_int) specNo))
  | _ => none
theorem cmp_Compare_int_EOk (R : Type) : EOk Tryd.prog (cmp_Compare_int_E R cmp_isNaN_int) := by
  intro i b sp h
  unfold cmp_Compare_int_E at h
  split at h
  · cases h; exact ⟨(cmp_isNaN_int_S_ok R _ (specNo_ok _)), fun h => nomatch h⟩
  · cases h

noncomputable def cmp_Compare_int_T (R : Type) : Nat → Option (Hint × LSpec R) := fun i => match i with
  | _ => none

noncomputable def cmp_Compare_int_X {R : Type} (cmp_isNaN_int : cmp_isNaN_int_ty R) (x1 : Int) (x2 : Int) (k0 : Int → Option R) : Option R :=
  cmp_isNaN_int x1 (fun y3 => cmp_isNaN_int x2 (fun y4 => bif y3 then (bif y4 then (k0 0) else (k0 (-1))) else (bif y4 then (k0 1) else (bif (decide (x1 < x2)) then (k0 (-1)) else (bif (decide (x1 > x2)) then (k0 1) else (k0 0))))))
noncomputable def cmp_Compare_int {R : Type} : cmp_Compare_int_ty R := fun x1 x2 k0 => cmp_Compare_int_X cmp_isNaN_int x1 x2 k0
theorem cmp_Compare_int_ok {R : Type} (cmp_isNaN_int : cmp_isNaN_int_ty R) (x1 : Int) (x2 : Int) (k : V → Heap → Option R) : funK tt (cmp_Compare_int_E R cmp_isNaN_int) (cmp_Compare_int_T R) false Tryd.f66 (codeOf Tryd.f66) [.int .i64 x1, .int .i64 x2] [] k =
    cmp_Compare_int_X cmp_isNaN_int x1 x2 (fun q0 => k (.int .i64 q0) []) := by kernel_rfl
theorem cmp_Compare_int_loops (R : Type) : ∀ a ∈ loopsOf (codeOf Tryd.f66), LoopOk tt (cmp_Compare_int_E R cmp_isNaN_int) (cmp_Compare_int_T R) 0 a := by
  refine loops_ok 0 (by kernel_rfl) fun i hi => ?_
  omega
theorem cmp_Compare_int_S_ok (R : Type) (other : Yard.Spec R) (ho : Yard.Spec.Ok Tryd.prog 66 other) : Yard.Spec.Ok Tryd.prog 66 (specBy cmp_Compare_int_p cmp_Compare_int_q (cmp_Compare_int_rr cmp_Compare_int) other) :=
  specBy_ok ho (funK_sound TT mixed (cmp_Compare_int_EOk R) (keep := false) rfl rfl rfl rfl 0 (cmp_Compare_int_loops R)) fun (x : Pat.dens cmp_Compare_int_p) (y : HPat.dens cmp_Compare_int_q) k => cmp_Compare_int_ok cmp_isNaN_int x.1 x.2.1 k

/-! ### humpyard/decimal.sign -/
abbrev decimal_sign_ty (R : Type) : Type := Int → (Int → Option R) → Option R
abbrev decimal_sign_p : List Pat := [.leaf (.int .i64)]
abbrev decimal_sign_q : List HPat := []
noncomputable def decimal_sign_rr {R : Type} (fn : decimal_sign_ty R) : Pat.dens decimal_sign_p → HPat.dens decimal_sign_q → (V → Heap → Option R) → Option R := fun x y k => fn x.1 (fun q0 => k (.int .i64 q0) [])
noncomputable def decimal_sign_E (R : Type) (cmp_Compare_int : cmp_Compare_int_ty R) : Env R := fun i => match i with
  | 66 => some (true, (specBy cmp_Compare_int_p cmp_Compare_int_q (cmp_Compare_int_rr cmp_Compare_int) specNo))
  | _ => none
theorem decimal_sign_EOk (R : Type) : EOk Tryd.prog (decimal_sign_E R cmp_Compare_int) := by
  intro i b sp h
  unfold decimal_sign_E at h
  split at h
  · cases h; exact ⟨(cmp_Compare_int_S_ok R _ (specNo_ok _)), fun h => nomatch h⟩
  · cases h

noncomputable def decimal_sign_T (R : Type) : Nat → Option (Hint × LSpec R) := fun i => match i with
  | _ => none

noncomputable def decimal_sign_X {R : Type} (cmp_Compare_int : cmp_Compare_int_ty R) (x1 : Int) (k0 : Int → Option R) : Option R :=
  cmp_Compare_int x1 0 (fun y2 => k0 y2)
noncomputable def decimal_sign {R : Type} : decimal_sign_ty R := fun x1 k0 => decimal_sign_X cmp_Compare_int x1 k0
theorem decimal_sign_ok {R : Type} (cmp_Compare_int : cmp_Compare_int_ty R) (x1 : Int) (k : V → Heap → Option R) : funK tt (decimal_sign_E R cmp_Compare_int) (decimal_sign_T R) false Tryd.f65 (codeOf Tryd.f65) [.int .i64 x1] [] k =
    decimal_sign_X cmp_Compare_int x1 (fun q0 => k (.int .i64 q0) []) := by kernel_rfl
theorem decimal_sign_loops (R : Type) : ∀ a ∈ loopsOf (codeOf Tryd.f65), LoopOk tt (decimal_sign_E R cmp_Compare_int) (decimal_sign_T R) 0 a := by
  refine loops_ok 0 (by kernel_rfl) fun i hi => ?_
  omega
theorem decimal_sign_S_ok (R : Type) (other : Yard.Spec R) (ho : Yard.Spec.Ok Tryd.prog 65 other) : Yard.Spec.Ok Tryd.prog 65 (specBy decimal_sign_p decimal_sign_q (decimal_sign_rr decimal_sign) other) :=
  specBy_ok ho (funK_sound TT mixed (decimal_sign_EOk R) (keep := false) rfl rfl rfl rfl 0 (decimal_sign_loops R)) fun (x : Pat.dens decimal_sign_p) (y : HPat.dens decimal_sign_q) k => decimal_sign_ok cmp_Compare_int x.1 k

/-! ### humpyard/decimal.size -/
abbrev decimal_size_ty (R : Type) : Type := Dcm → (Int → Option R) → Option R
abbrev decimal_size_p : List Pat := [.agg [.int .i64, .int .i64]]
abbrev decimal_size_q : List HPat := []
noncomputable def decimal_size_rr {R : Type} (fn : decimal_size_ty R) : Pat.dens decimal_size_p → HPat.dens decimal_size_q → (V → Heap → Option R) → Option R := fun x y k => fn (⟨x.1.1, x.1.2.1⟩ : Dcm) (fun q0 => k (.int .i64 q0) [])
noncomputable def decimal_size_E (R : Type) : Env R := fun i => match i with
  | 56 => some (true, (itoa_S R))
  | _ => none
theorem decimal_size_EOk (R : Type) : EOk Tryd.prog (decimal_size_E R) := by
  intro i b sp h
  unfold decimal_size_E at h
  split at h
  · cases h; exact ⟨(itoa_ok), fun h => nomatch h⟩
  · cases h

noncomputable def decimal_size_T (R : Type) : Nat → Option (Hint × LSpec R) := fun i => match i with
  | _ => none

noncomputable def decimal_size_X {R : Type} (x1 : Dcm) (k0 : Int → Option R) : Option R :=
  k0 (IntKind.i64.wrap (((itoaS (max x1.mant (IntKind.i64.wrap (0 - x1.mant)))).length : Int) + x1.exp))
noncomputable def decimal_size {R : Type} : decimal_size_ty R := fun x1 k0 => decimal_size_X x1 k0
theorem decimal_size_ok {R : Type} (x1 : Dcm) (k : V → Heap → Option R) : funK tt (decimal_size_E R) (decimal_size_T R) false Tryd.f67 (codeOf Tryd.f67) [.agg [.int .i64 x1.mant, .int .i64 x1.exp]] [] k =
    decimal_size_X x1 (fun q0 => k (.int .i64 q0) []) := by kernel_rfl
theorem decimal_size_loops (R : Type) : ∀ a ∈ loopsOf (codeOf Tryd.f67), LoopOk tt (decimal_size_E R) (decimal_size_T R) 0 a := by
  refine loops_ok 0 (by kernel_rfl) fun i hi => ?_
  omega
theorem decimal_size_S_ok (R : Type) (other : Yard.Spec R) (ho : Yard.Spec.Ok Tryd.prog 67 other) : Yard.Spec.Ok Tryd.prog 67 (specBy decimal_size_p decimal_size_q (decimal_size_rr decimal_size) other) :=
  specBy_ok ho (funK_sound TT mixed (decimal_size_EOk R) (keep := false) rfl rfl rfl rfl 0 (decimal_size_loops R)) fun (x : Pat.dens decimal_size_p) (y : HPat.dens decimal_size_q) k => decimal_size_ok (⟨x.1.1, x.1.2.1⟩ : Dcm) k

end Go.Proofs.YtifgegmnngfckaaDoor

set_option linter.unusedVariables false
set_option maxRecDepth 100000
namespace Go.Proofs.YtifgegmnngfckaaDoor
open Go Go.Yard

theorem pick01 {R : Type} (c n : Int) (hc : I64 c) (h0 : 0 < n) (hn : n ≤ 9223372036854775807) : ∃ r : Int, 0 ≤ r ∧ r < n ∧ ∀ k : Int → Option R, law01_pick c n k = k r := pick_raw c n hc h0 hn

theorem strip_ex : ∀ (b : Nat) (m : Int), m ≠ 0 → m.natAbs < b → ∃ (j : Nat) (u : Int), m = u * 10 ^ j ∧ Int.tmod u 10 ≠ 0
  | 0, m, _, h => by omega
  | b + 1, m, h0, hb => by
    by_cases h : Int.tmod m 10 = 0
    · have hd : m = Int.tdiv m 10 * 10 := by have := Int.tmod_add_mul_tdiv m 10; omega
      have hn : (Int.tdiv m 10).natAbs < m.natAbs := by rw [Int.natAbs_tdiv]; show m.natAbs / 10 < m.natAbs; omega
      obtain ⟨j, u, e, hu⟩ := strip_ex b (Int.tdiv m 10) (by omega) (by omega)
      refine ⟨j + 1, u, ?_, hu⟩
      rw [Int.pow_succ, ← Int.mul_assoc, ← e]
      exact hd
    · exact ⟨0, m, by simp, h⟩

theorem strip_one : ∀ (i j : Nat) (u v : Int), Int.tmod u 10 ≠ 0 → Int.tmod v 10 ≠ 0 → u * 10 ^ i = v * 10 ^ j → i = j ∧ u = v
  | 0, 0, u, v, _, _, h => ⟨rfl, by simpa using h⟩
  | 0, j + 1, u, v, hu, _, h => by
    exfalso
    apply hu
    have : u = (v * 10 ^ j) * 10 := by rw [Int.pow_succ, ← Int.mul_assoc] at h; simpa using h
    rw [this]
    exact Int.mul_tmod_left _ _
  | i + 1, 0, u, v, _, hv, h => by
    exfalso
    apply hv
    have : v = (u * 10 ^ i) * 10 := by rw [Int.pow_succ, ← Int.mul_assoc] at h; simpa using h.symm
    rw [this]
    exact Int.mul_tmod_left _ _
  | i + 1, j + 1, u, v, hu, hv, h => by
    have h2 : u * 10 ^ i = v * 10 ^ j := by
      rw [Int.pow_succ, Int.pow_succ, ← Int.mul_assoc, ← Int.mul_assoc] at h
      omega
    obtain ⟨h3, h4⟩ := strip_one i j u v hu hv h2
    exact ⟨by omega, h4⟩

theorem pow_pos10 (j : Nat) : (1 : Int) ≤ 10 ^ j := by
  induction j with
  | zero => simp
  | succ j ih => rw [Int.pow_succ]; omega

theorem abs_le_mul (u : Int) (j : Nat) : u.natAbs ≤ (u * 10 ^ j).natAbs := by
  rw [Int.natAbs_mul]
  have h := pow_pos10 j
  have : 1 ≤ ((10 : Int) ^ j).natAbs := by omega
  exact Nat.le_mul_of_pos_right _ this

theorem noughts_le (u : Int) (hu : u ≠ 0) : ∀ j : Nat, j ≤ (u * 10 ^ j).natAbs := by
  intro j
  rw [Int.natAbs_mul]
  have h1 : 1 ≤ u.natAbs := by omega
  have h2 : j ≤ ((10 : Int) ^ j).natAbs := by
    induction j with
    | zero => simp
    | succ j ih =>
      have := pow_pos10 j
      rw [Int.pow_succ, Int.natAbs_mul]
      show j + 1 ≤ ((10 : Int) ^ j).natAbs * 10
      omega
  calc j ≤ ((10 : Int) ^ j).natAbs := h2
    _ ≤ u.natAbs * ((10 : Int) ^ j).natAbs := Nat.le_mul_of_pos_left _ h1

theorem noughts_pow (u : Int) (hu : u ≠ 0) (j : Nat) : 2 ^ j ≤ (u * 10 ^ j).natAbs := by
  rw [Int.natAbs_mul]
  have h2 : ∀ j : Nat, 2 ^ j ≤ ((10 : Int) ^ j).natAbs := by
    intro j
    induction j with
    | zero => simp
    | succ j ih =>
      rw [Int.pow_succ, Int.natAbs_mul, Nat.pow_succ]
      show 2 ^ j * 2 ≤ ((10 : Int) ^ j).natAbs * 10
      omega
  exact Nat.le_trans (h2 j) (Nat.le_mul_of_pos_left _ (by omega))

theorem noughts_64 {u : Int} (hu : u ≠ 0) {j : Nat} (hb : I64 (u * 10 ^ j)) : j < 64 := by
  have h := noughts_pow u hu j
  unfold I64 at hb
  rcases Nat.lt_or_ge j 64 with h1 | h1
  · exact h1
  · have h2 : (2 : Nat) ^ 64 ≤ 2 ^ j := Nat.pow_le_pow_right (by omega) h1
    have h3 : (2 : Nat) ^ 64 = 18446744073709551616 := rfl
    omega

theorem make_loop {R : Type} (d : Dcm) (e0 : Int → Int → Dcm → Option R) : ∀ (j n : Nat) (u x : Int), j < n → Int.tmod u 10 ≠ 0 → I64 (u * 10 ^ j) → -9223372036854775808 ≤ x → x + j ≤ 4000000000000000000 →
    decimal_Make_4_0_L n (u * 10 ^ j) x d e0 = e0 u (x + j) d := by
  intro j
  induction j with
  | zero =>
    intro n u x hn hu hb h1 h2
    obtain ⟨m, rfl⟩ : ∃ m, n = m + 1 := ⟨n - 1, by omega⟩
    have e : decimal_Make_4_0_L (m + 1) (u * 10 ^ 0) x d e0 = decimal_Make_4_0_B (fun x0' x1' x2' => decimal_Make_4_0_L m x0' x1' x2' e0) (u * 10 ^ 0) x d e0 := rfl
    rw [e]
    unfold decimal_Make_4_0_B
    have e1 : u * 10 ^ 0 = u := by simp
    have e2 : (Int.tmod u 10 == 0) = false := by rw [beq_eq_false_iff_ne]; exact hu
    rw [e1, e2, cond_false]
    simp
  | succ j ih =>
    intro n u x hn hu hb h1 h2
    obtain ⟨m, rfl⟩ : ∃ m, n = m + 1 := ⟨n - 1, by omega⟩
    have e : decimal_Make_4_0_L (m + 1) (u * 10 ^ (j + 1)) x d e0 = decimal_Make_4_0_B (fun x0' x1' x2' => decimal_Make_4_0_L m x0' x1' x2' e0) (u * 10 ^ (j + 1)) x d e0 := rfl
    rw [e]
    unfold decimal_Make_4_0_B
    have ep : u * 10 ^ (j + 1) = u * 10 ^ j * 10 := by rw [Int.pow_succ, Int.mul_assoc]
    unfold I64 at hb
    rw [ep] at hb ⊢
    have e1 : (Int.tmod (u * 10 ^ j * 10) 10 == 0) = true := by rw [Int.mul_tmod_left]; rfl
    have e2 : Int.tdiv (u * 10 ^ j * 10) 10 = u * 10 ^ j := Int.mul_tdiv_cancel _ (by omega)
    rw [e1, cond_true, e2, wrap_id (n := u * 10 ^ j) (by omega) (by omega), wrap_id (n := x + 1) (by omega) (by omega)]
    show decimal_Make_4_0_L m (u * 10 ^ j) (x + 1) d e0 = _
    rw [ih m u (x + 1) (by omega) hu (by unfold I64; omega) (by omega) (by omega)]
    have : x + 1 + (j : Int) = x + ((j + 1 : Nat) : Int) := by omega
    rw [this]

theorem within_ok {R : Type} (a b c : Int) (k : Bool → Option R) : decimal_within_int a b c k = k (decide (a ≤ b) && decide (b ≤ c)) := by
  have e : decimal_within_int a b c k = decimal_within_int_X a b c k := rfl
  rw [e]
  unfold decimal_within_int_X
  by_cases h1 : a ≤ b
  · rw [dtrue h1]; first | rfl | simp
  · rw [dfalse h1]; first | rfl | simp

def mkD (u x : Int) : Dcm × Bool := if -1000000000000000 ≤ u ∧ u ≤ 1000000000000000 ∧ -9 ≤ x ∧ x ≤ 9 then (⟨u, x⟩, true) else (⟨0, 0⟩, false)

theorem make_ok {R : Type} (u : Int) (j : Nat) (x : Int) (hu : Int.tmod u 10 ≠ 0) (hb : I64 (u * 10 ^ j)) (h1 : -9223372036854775808 ≤ x) (h2 : x ≤ 1000000) (k : Dcm → Bool → Option R) :
    decimal_Make (u * 10 ^ j) x k = k (mkD u (x + j)).1 (mkD u (x + j)).2 := by
  have e : decimal_Make (u * 10 ^ j) x k = decimal_Make_X decimal_within_int decimal_Make_4_0_L (u * 10 ^ j) x k := rfl
  rw [e]
  unfold decimal_Make_X
  have hu0 : u ≠ 0 := by rintro rfl; exact hu rfl
  have ha := abs_le_mul u j
  have hn := noughts_le u hu0 j
  have h64 := noughts_64 hu0 hb
  have h0 : (u * 10 ^ j == 0) = false := by rw [beq_eq_false_iff_ne]; omega
  have hm : min x 1000000 = x := Int.min_eq_left h2
  unfold I64 at hb
  rw [h0, cond_false, hm, make_loop _ _ j _ u x (by omega) hu (by unfold I64; exact hb) h1 (by omega)]
  rw [within_ok]
  unfold mkD
  by_cases c1 : -1000000000000000 ≤ u ∧ u ≤ 1000000000000000
  · rw [dtrue c1.1, dtrue c1.2]
    simp only [Bool.and_self, Bool.not_true, cond_false]
    rw [within_ok]
    by_cases c2 : -9 ≤ x + (j : Int) ∧ x + (j : Int) ≤ 9
    · rw [dtrue c2.1, dtrue c2.2, if_pos ⟨c1.1, c1.2, c2.1, c2.2⟩]
      rfl
    · rw [if_neg (fun h => c2 h.2.2)]
      have : (decide (-9 ≤ x + (j : Int)) && decide (x + (j : Int) ≤ 9)) = false := by
        rw [Bool.and_eq_false_iff, decide_eq_false_iff_not, decide_eq_false_iff_not]; omega
      rw [this]
      rfl
  · rw [if_neg (fun h => c1 ⟨h.1, h.2.1⟩)]
    have : (decide (-1000000000000000 ≤ u) && decide (u ≤ 1000000000000000)) = false := by
      rw [Bool.and_eq_false_iff, decide_eq_false_iff_not, decide_eq_false_iff_not]; omega
    rw [this]
    rfl

theorem make_zero {R : Type} (x : Int) (k : Dcm → Bool → Option R) : decimal_Make 0 x k = k ⟨0, 0⟩ true := by
  have e : decimal_Make 0 x k = decimal_Make_X decimal_within_int decimal_Make_4_0_L 0 x k := rfl
  rw [e]
  rfl

theorem right_mk {R : Type} {u x : Int} (hu : Int.tmod u 10 ≠ 0) (h : -1000000000000000 ≤ u ∧ u ≤ 1000000000000000 ∧ -9 ≤ x ∧ x ≤ 9) (k : Bool → Option R) : decimal_Right ⟨u, x⟩ k = k true := by
  have e : decimal_Right ⟨u, x⟩ k = decimal_Right_X decimal_within_int ⟨u, x⟩ k := rfl
  rw [e]
  unfold decimal_Right_X
  have hu0 : u ≠ 0 := by rintro rfl; exact hu rfl
  have e1 : (u == 0) = false := by rw [beq_eq_false_iff_ne]; exact hu0
  have e2 : (Int.tmod u 10 != 0) = true := bne_iff_ne.2 hu
  simp only [e1, e2, cond_false, cond_true, within_ok]
  rw [dtrue h.1, dtrue h.2.1, dtrue h.2.2.1, dtrue h.2.2.2]
  rfl

end Go.Proofs.YtifgegmnngfckaaDoor

/-
  Functions of the program as pure Lean functions, and the ties; printed by wip/tools/emit.py.
-/
set_option maxRecDepth 100000
set_option linter.unusedVariables false
namespace Go.Proofs.YtifgegmnngfckaaDoor
open Go Go.Yard

/-! ### humpyard/decimal.Compare -/
abbrev decimal_Compare_ty (R : Type) : Type := Dcm → Dcm → (Int → Option R) → Option R
abbrev decimal_Compare_p : List Pat := [.agg [.int .i64, .int .i64], .agg [.int .i64, .int .i64]]
abbrev decimal_Compare_q : List HPat := []
noncomputable def decimal_Compare_rr {R : Type} (fn : decimal_Compare_ty R) : Pat.dens decimal_Compare_p → HPat.dens decimal_Compare_q → (V → Heap → Option R) → Option R := fun x y k => fn (⟨x.1.1, x.1.2.1⟩ : Dcm) (⟨x.2.1.1, x.2.1.2.1⟩ : Dcm) (fun q0 => k (.int .i64 q0) [])
noncomputable def decimal_Compare_E (R : Type) (decimal_Right : decimal_Right_ty R) (decimal_sign : decimal_sign_ty R) (cmp_Compare_int : cmp_Compare_int_ty R) (decimal_size : decimal_size_ty R) (decimal_shifted : decimal_shifted_ty R) : Env R := fun i => match i with
  | 30 => some (true, (specBy decimal_Right_p decimal_Right_q (decimal_Right_rr decimal_Right) specNo))
  | 65 => some (true, (specBy decimal_sign_p decimal_sign_q (decimal_sign_rr decimal_sign) specNo))
  | 66 => some (true, (specBy cmp_Compare_int_p cmp_Compare_int_q (cmp_Compare_int_rr cmp_Compare_int) specNo))
  | 67 => some (true, (specBy decimal_size_p decimal_size_q (decimal_size_rr decimal_size) specNo))
  | 68 => some (true, (specBy decimal_shifted_p decimal_shifted_q (decimal_shifted_rr decimal_shifted) specNo))
  | _ => none
theorem decimal_Compare_EOk (R : Type) : EOk Tryd.prog (decimal_Compare_E R decimal_Right decimal_sign cmp_Compare_int decimal_size decimal_shifted) := by
  intro i b sp h
  unfold decimal_Compare_E at h
  split at h
  · cases h; exact ⟨(decimal_Right_S_ok R _ (specNo_ok _)), fun h => nomatch h⟩
  · cases h; exact ⟨(decimal_sign_S_ok R _ (specNo_ok _)), fun h => nomatch h⟩
  · cases h; exact ⟨(cmp_Compare_int_S_ok R _ (specNo_ok _)), fun h => nomatch h⟩
  · cases h; exact ⟨(decimal_size_S_ok R _ (specNo_ok _)), fun h => nomatch h⟩
  · cases h; exact ⟨(decimal_shifted_S_ok R _ (specNo_ok _)), fun h => nomatch h⟩
  · cases h

noncomputable def decimal_Compare_T (R : Type) : Nat → Option (Hint × LSpec R) := fun i => match i with
  | _ => none

noncomputable def decimal_Compare_X {R : Type} (decimal_Right : decimal_Right_ty R) (decimal_sign : decimal_sign_ty R) (cmp_Compare_int : cmp_Compare_int_ty R) (decimal_size : decimal_size_ty R) (decimal_shifted : decimal_shifted_ty R) (x1 : Dcm) (x2 : Dcm) (k0 : Int → Option R) : Option R :=
  decimal_sign x1.mant (fun y3 => let j15 := fun (z6 : Bool) => bif z6 then (k0 0) else (decimal_sign x2.mant (fun y7 => bif (y3 != y7) then (decimal_sign x2.mant (fun y8 => cmp_Compare_int y3 y8 (fun y9 => k0 y9))) else (decimal_size x1 (fun y10 => decimal_size x2 (fun y11 => bif (y10 != y11) then (decimal_size x1 (fun y12 => decimal_size x2 (fun y13 => cmp_Compare_int y12 y13 (fun y14 => k0 (IntKind.i64.wrap (y14 * y3)))))) else (decimal_shifted x1 (min x1.exp x2.exp) (fun y16 y17 => decimal_shifted x2 (min x1.exp x2.exp) (fun y18 y19 => cmp_Compare_int y16 y18 (fun y20 => k0 y20))))))))); decimal_Right x1 (fun y4 => bif (!y4) then (j15 true) else (decimal_Right x2 (fun y5 => j15 (!y5)))))
noncomputable def decimal_Compare {R : Type} : decimal_Compare_ty R := fun x1 x2 k0 => decimal_Compare_X decimal_Right decimal_sign cmp_Compare_int decimal_size decimal_shifted x1 x2 k0
theorem decimal_Compare_ok {R : Type} (decimal_Right : decimal_Right_ty R) (decimal_sign : decimal_sign_ty R) (cmp_Compare_int : cmp_Compare_int_ty R) (decimal_size : decimal_size_ty R) (decimal_shifted : decimal_shifted_ty R) (x1 : Dcm) (x2 : Dcm) (k : V → Heap → Option R) : funK tt (decimal_Compare_E R decimal_Right decimal_sign cmp_Compare_int decimal_size decimal_shifted) (decimal_Compare_T R) false Tryd.f33 (codeOf Tryd.f33) [.agg [.int .i64 x1.mant, .int .i64 x1.exp], .agg [.int .i64 x2.mant, .int .i64 x2.exp]] [] k =
    decimal_Compare_X decimal_Right decimal_sign cmp_Compare_int decimal_size decimal_shifted x1 x2 (fun q0 => k (.int .i64 q0) []) := by kernel_rfl
theorem decimal_Compare_loops (R : Type) : ∀ a ∈ loopsOf (codeOf Tryd.f33), LoopOk tt (decimal_Compare_E R decimal_Right decimal_sign cmp_Compare_int decimal_size decimal_shifted) (decimal_Compare_T R) 0 a := by
  refine loops_ok 0 (by kernel_rfl) fun i hi => ?_
  omega
theorem decimal_Compare_S_ok (R : Type) (other : Yard.Spec R) (ho : Yard.Spec.Ok Tryd.prog 33 other) : Yard.Spec.Ok Tryd.prog 33 (specBy decimal_Compare_p decimal_Compare_q (decimal_Compare_rr decimal_Compare) other) :=
  specBy_ok ho (funK_sound TT mixed (decimal_Compare_EOk R) (keep := false) rfl rfl rfl rfl 0 (decimal_Compare_loops R)) fun (x : Pat.dens decimal_Compare_p) (y : HPat.dens decimal_Compare_q) k => decimal_Compare_ok decimal_Right decimal_sign cmp_Compare_int decimal_size decimal_shifted (⟨x.1.1, x.1.2.1⟩ : Dcm) (⟨x.2.1.1, x.2.1.2.1⟩ : Dcm) k

/-! ### humpyard/humpyardref01.Make -/
abbrev ref01_Make_ty (R : Type) : Type := Int → Int → (Dcm → Bool → Option R) → Option R
abbrev ref01_Make_p : List Pat := [.leaf (.int .i64), .leaf (.int .i64)]
abbrev ref01_Make_q : List HPat := []
noncomputable def ref01_Make_rr {R : Type} (fn : ref01_Make_ty R) : Pat.dens ref01_Make_p → HPat.dens ref01_Make_q → (V → Heap → Option R) → Option R := fun x y k => fn x.1 x.2.1 (fun q0 q1 => k (.tuple [.agg [.int .i64 q0.mant, .int .i64 q0.exp], .bool q1]) [])
abbrev ref01_Make_3_0_ty (R : Type) : Type := Nat → Int → Int → Dcm → (Int → Int → Dcm → Option R) → (Int → Int → Bool → Dcm → Option R) → Option R
noncomputable def ref01_Make_E (R : Type) : Env R := fun i => match i with
  | _ => none
theorem ref01_Make_EOk (R : Type) : EOk Tryd.prog (ref01_Make_E R) := by
  intro i b sp h
  unfold ref01_Make_E at h
  split at h
  · cases h

noncomputable def ref01_Make_3_0_B {R : Type} (rec' : Int → Int → Dcm → Option R) (x3 : Int) (x4 : Int) (x5 : Dcm) (e0 : Int → Int → Dcm → Option R) (e1 : Int → Int → Bool → Dcm → Option R) : Option R :=
  bif ((Int.tmod x3 10) == 0) then (bif (decide (x4 > (1099511627776 : Int))) then (e1 (IntKind.i64.wrap (Int.tdiv x3 10)) x4 false (⟨0, 0⟩ : Dcm)) else (rec' (IntKind.i64.wrap (Int.tdiv x3 10)) (IntKind.i64.wrap (x4 + 1)) x5)) else (e0 x3 x4 x5)
noncomputable def ref01_Make_3_0_L {R : Type} : ref01_Make_3_0_ty R
  | 0, _, _, _, _, _ => none
  | n + 1, x0', x1', x2', e0, e1 => ref01_Make_3_0_B (fun x0' x1' x2' => ref01_Make_3_0_L n x0' x1' x2' e0 e1) x0' x1' x2' e0 e1
noncomputable def ref01_Make_3_0_h : Hint := { live := [0, 1, 4], own := [], rows := [], cells := [], drop := [], out := [0, 1, 4, 5] }
abbrev ref01_Make_3_0_D : Type := Int × Int × Dcm
noncomputable def ref01_Make_3_0_enc : ref01_Make_3_0_D → St := fun d => ⟨[.int .i64 d.1, .int .i64 d.2.1, .undef, .undef, .ptr 0 0, .undef, .undef, .undef, .undef, .undef, .undef, .undef, .undef, .undef, .undef, .undef, .undef, .undef, .undef, .undef, .undef, .undef, .undef, .undef, .undef, .undef, .undef, .undef, .undef, .undef, .undef, .undef, .undef, .undef, .undef, .undef, .undef], [.cells [.int .i64 d.2.2.mant, .int .i64 d.2.2.exp]]⟩
noncomputable def ref01_Make_3_0_x0 {R : Type} (K : Ex → St → Option R) (q0 : Int) (q1 : Int) (q2 : Dcm) : Option R := K (.exit 0) ⟨[.int .i64 q0, .int .i64 q1, .undef, .undef, .ptr 0 0, .undef, .undef, .undef, .undef, .undef, .undef, .undef, .undef, .undef, .undef, .undef, .undef, .undef, .undef, .undef, .undef, .undef, .undef, .undef, .undef, .undef, .undef, .undef, .undef, .undef, .undef, .undef, .undef, .undef, .undef, .undef, .undef], [.cells [.int .i64 q2.mant, .int .i64 q2.exp]]⟩
noncomputable def ref01_Make_3_0_x1 {R : Type} (K : Ex → St → Option R) (q0 : Int) (q1 : Int) (q2 : Bool) (q3 : Dcm) : Option R := K (.ret) ⟨[.int .i64 q0, .int .i64 q1, .undef, .undef, .ptr 0 0, .bool q2, .undef, .undef, .undef, .undef, .undef, .undef, .undef, .undef, .undef, .undef, .undef, .undef, .undef, .undef, .undef, .undef, .undef, .undef, .undef, .undef, .undef, .undef, .undef, .undef, .undef, .undef, .undef, .undef, .undef, .undef, .undef], [.cells [.int .i64 q3.mant, .int .i64 q3.exp]]⟩
noncomputable def ref01_Make_3_0_s {R : Type} (K : Ex → St → Option R) (rc : ref01_Make_3_0_D → Option R) (d : ref01_Make_3_0_D) : Option R := ref01_Make_3_0_B (fun z0 z1 z2 => rc (z0, z1, z2)) d.1 d.2.1 d.2.2 (ref01_Make_3_0_x0 K) (ref01_Make_3_0_x1 K)
noncomputable def ref01_Make_3_0_A {R : Type} (K : Ex → St → Option R) (n : Nat) (d : ref01_Make_3_0_D) : Option R := ref01_Make_3_0_L n d.1 d.2.1 d.2.2 (ref01_Make_3_0_x0 K) (ref01_Make_3_0_x1 K)
abbrev ref01_Make_3_0_p : List Pat := [.leaf (.int .i64), .leaf (.int .i64), .leaf (.undef), .leaf (.undef), .leaf (.ptr 0 0), .leaf (.undef), .leaf (.undef), .leaf (.undef), .leaf (.undef), .leaf (.undef), .leaf (.undef), .leaf (.undef), .leaf (.undef), .leaf (.undef), .leaf (.undef), .leaf (.undef), .leaf (.undef), .leaf (.undef), .leaf (.undef), .leaf (.undef), .leaf (.undef), .leaf (.undef), .leaf (.undef), .leaf (.undef), .leaf (.undef), .leaf (.undef), .leaf (.undef), .leaf (.undef), .leaf (.undef), .leaf (.undef), .leaf (.undef), .leaf (.undef), .leaf (.undef), .leaf (.undef), .leaf (.undef), .leaf (.undef), .leaf (.undef)]
abbrev ref01_Make_3_0_q : List HPat := [.cells [.int .i64, .int .i64]]
noncomputable def ref01_Make_3_0_f (x : Pat.dens ref01_Make_3_0_p) (y : HPat.dens ref01_Make_3_0_q) : Nat := (Int.natAbs x.1 + Int.natAbs x.2.1 + Dcm.fu (⟨y.1.1, y.1.2.1⟩ : Dcm) + 64)
noncomputable def ref01_Make_3_0_d (x : Pat.dens ref01_Make_3_0_p) (y : HPat.dens ref01_Make_3_0_q) : ref01_Make_3_0_D := (x.1, x.2.1, (⟨y.1.1, y.1.2.1⟩ : Dcm))
noncomputable def ref01_Make_3_0_rr {R : Type} (L : ref01_Make_3_0_ty R) : Pat.dens ref01_Make_3_0_p → HPat.dens ref01_Make_3_0_q → (Ex → St → Option R) → Option R := fun x y K => L (ref01_Make_3_0_f x y) x.1 x.2.1 (⟨y.1.1, y.1.2.1⟩ : Dcm) (ref01_Make_3_0_x0 K) (ref01_Make_3_0_x1 K)
noncomputable def ref01_Make_T (R : Type) (ref01_Make_3_0_L : ref01_Make_3_0_ty R) : Nat → Option (Hint × LSpec R) := fun i => match i with
  | 3 => some (ref01_Make_3_0_h, (loopBy ref01_Make_3_0_p ref01_Make_3_0_q (ref01_Make_3_0_rr ref01_Make_3_0_L) loopNo))
  | _ => none

theorem ref01_Make_3_0_B_ok {R : Type} (ref01_Make_3_0_L : ref01_Make_3_0_ty R) (K : Ex → St → Option R) (rc : St → Option R) (d : ref01_Make_3_0_D) : roundOf tt (ref01_Make_E R) (ref01_Make_T R ref01_Make_3_0_L) 0 ((loopsOf (codeOf Tryd.f35)).getD 0 .skip) ref01_Make_3_0_h (ref01_Make_3_0_enc d) rc K = ref01_Make_3_0_s K (fun d => rc (ref01_Make_3_0_enc d)) d := by kernel_rfl
theorem ref01_Make_3_0_A_succ {R : Type} (K : Ex → St → Option R) (n : Nat) (d : ref01_Make_3_0_D) : ref01_Make_3_0_A K (n + 1) d = ref01_Make_3_0_s K (ref01_Make_3_0_A K n) d := by kernel_rfl
theorem ref01_Make_3_0_A_zero {R : Type} (K : Ex → St → Option R) (d : ref01_Make_3_0_D) : ref01_Make_3_0_A K 0 d = none := by kernel_rfl
theorem ref01_Make_3_0_e_ok (x : Pat.dens ref01_Make_3_0_p) (y : HPat.dens ref01_Make_3_0_q) : (⟨Pat.encL ref01_Make_3_0_p x, HPat.encL ref01_Make_3_0_q y⟩ : St) = ref01_Make_3_0_enc (ref01_Make_3_0_d x y) := by kernel_rfl
theorem ref01_Make_3_0_r_ok {R : Type} (x : Pat.dens ref01_Make_3_0_p) (y : HPat.dens ref01_Make_3_0_q) (K : Ex → St → Option R) : ref01_Make_3_0_rr (ref01_Make_3_0_L) x y K = ref01_Make_3_0_A K (ref01_Make_3_0_f x y) (ref01_Make_3_0_d x y) := by kernel_rfl
theorem ref01_Make_3_0_ok {R : Type} (other : LSpec R) (ho : LsOk tt (ref01_Make_E R) (ref01_Make_T R ref01_Make_3_0_L) 0 ((loopsOf (codeOf Tryd.f35)).getD 0 .skip) ref01_Make_3_0_h other) : LsOk tt (ref01_Make_E R) (ref01_Make_T R ref01_Make_3_0_L) 0 ((loopsOf (codeOf Tryd.f35)).getD 0 .skip) ref01_Make_3_0_h (loopBy ref01_Make_3_0_p ref01_Make_3_0_q (ref01_Make_3_0_rr (ref01_Make_3_0_L)) other) :=
  loopBy_tie (A := ref01_Make_3_0_A) ho (loop_tie ref01_Make_3_0_enc (ref01_Make_3_0_s) (ref01_Make_3_0_A) (ref01_Make_3_0_A_zero) (ref01_Make_3_0_B_ok ref01_Make_3_0_L) (ref01_Make_3_0_A_succ)) ref01_Make_3_0_f ref01_Make_3_0_d ref01_Make_3_0_e_ok (ref01_Make_3_0_r_ok)

noncomputable def ref01_Make_X {R : Type} (ref01_Make_3_0_L : ref01_Make_3_0_ty R) (x1 : Int) (x2 : Int) (k0 : Dcm → Bool → Option R) : Option R :=
  bif (x1 == 0) then (k0 (⟨0, 0⟩ : Dcm) true) else (ref01_Make_3_0_L (Int.natAbs x1 + Int.natAbs x2 + Dcm.fu (⟨0, 0⟩ : Dcm) + 64) x1 x2 (⟨0, 0⟩ : Dcm) (fun y6 y7 y8 => bif (decide (y6 > (1000000000000000 : Int))) then (k0 (⟨0, 0⟩ : Dcm) false) else (bif (decide (y6 < (-1000000000000000 : Int))) then (k0 (⟨0, 0⟩ : Dcm) false) else (bif (decide (y7 > (9 : Int))) then (k0 (⟨0, 0⟩ : Dcm) false) else (bif (decide (y7 < (-9 : Int))) then (k0 (⟨0, 0⟩ : Dcm) false) else (k0 (⟨y6, y7⟩ : Dcm) true))))) (fun y9 y10 y11 y12 => k0 y12 y11))
noncomputable def ref01_Make {R : Type} : ref01_Make_ty R := fun x1 x2 k0 => ref01_Make_X ref01_Make_3_0_L x1 x2 k0
theorem ref01_Make_ok {R : Type} (ref01_Make_3_0_L : ref01_Make_3_0_ty R) (x1 : Int) (x2 : Int) (k : V → Heap → Option R) : funK tt (ref01_Make_E R) (ref01_Make_T R ref01_Make_3_0_L) false Tryd.f35 (codeOf Tryd.f35) [.int .i64 x1, .int .i64 x2] [] k =
    ref01_Make_X ref01_Make_3_0_L x1 x2 (fun q0 q1 => k (.tuple [.agg [.int .i64 q0.mant, .int .i64 q0.exp], .bool q1]) []) := by kernel_rfl
theorem ref01_Make_loops (R : Type) : ∀ a ∈ loopsOf (codeOf Tryd.f35), LoopOk tt (ref01_Make_E R) (ref01_Make_T R ref01_Make_3_0_L) 0 a := by
  refine loops_ok 1 (by kernel_rfl) fun i hi => ?_
  match i, hi with
  | 0, _ => exact loopOk_some (by kernel_rfl) (ref01_Make_3_0_ok _ loopNo_ok)
  | n + 1, hi => omega
theorem ref01_Make_S_ok (R : Type) (other : Yard.Spec R) (ho : Yard.Spec.Ok Tryd.prog 35 other) : Yard.Spec.Ok Tryd.prog 35 (specBy ref01_Make_p ref01_Make_q (ref01_Make_rr ref01_Make) other) :=
  specBy_ok ho (funK_sound TT mixed (ref01_Make_EOk R) (keep := false) rfl rfl rfl rfl 0 (ref01_Make_loops R)) fun (x : Pat.dens ref01_Make_p) (y : HPat.dens ref01_Make_q) k => ref01_Make_ok ref01_Make_3_0_L x.1 x.2.1 k

/-! ### humpyard/humpyardref01.digits -/
abbrev ref01_digits_ty (R : Type) : Type := Str → Int → (Int → Option R) → Option R
abbrev ref01_digits_p : List Pat := [.leaf (.str), .leaf (.int .i64)]
abbrev ref01_digits_q : List HPat := []
noncomputable def ref01_digits_rr {R : Type} (fn : ref01_digits_ty R) : Pat.dens ref01_digits_p → HPat.dens ref01_digits_q → (V → Heap → Option R) → Option R := fun x y k => fn x.1 x.2.1 (fun q0 => k (.int .i64 q0) [])
abbrev ref01_digits_2_0_ty (R : Type) : Type := Nat → Str → Int → Int → (Int → Option R) → Option R
noncomputable def ref01_digits_E (R : Type) : Env R := fun i => match i with
  | _ => none
theorem ref01_digits_EOk (R : Type) : EOk Tryd.prog (ref01_digits_E R) := by
  intro i b sp h
  unfold ref01_digits_E at h
  split at h
  · cases h

noncomputable def ref01_digits_2_0_B {R : Type} (rec' : Str → Int → Int → Option R) (x3 : Str) (x4 : Int) (x5 : Int) (e0 : Int → Option R) : Option R :=
  bif (decide ((IntKind.i64.wrap (x4 + x5)) < (x3.length : Int))) then (chk (decide ((0 : Int) ≤ (IntKind.i64.wrap (x4 + x5))) && decide ((IntKind.i64.wrap (x4 + x5)) < x3.length)) (bif (decide (((x3.getD ((IntKind.i64.wrap (x4 + x5)).toNat) 0).toNat : Int) ≥ (48 : Int))) then (chk (decide ((0 : Int) ≤ (IntKind.i64.wrap (x4 + x5))) && decide ((IntKind.i64.wrap (x4 + x5)) < x3.length)) (bif (decide (((x3.getD ((IntKind.i64.wrap (x4 + x5)).toNat) 0).toNat : Int) ≤ (57 : Int))) then (rec' x3 x4 (IntKind.i64.wrap (x5 + 1))) else (e0 x5))) else (e0 x5))) else (e0 x5)
noncomputable def ref01_digits_2_0_L {R : Type} : ref01_digits_2_0_ty R
  | 0, _, _, _, _ => none
  | n + 1, x0', x1', x2', e0 => ref01_digits_2_0_B (fun x0' x1' x2' => ref01_digits_2_0_L n x0' x1' x2' e0) x0' x1' x2' e0
noncomputable def ref01_digits_2_0_h : Hint := { live := [0, 1, 5], own := [], rows := [], cells := [], drop := [], out := [4, 5] }
abbrev ref01_digits_2_0_D : Type := Str × Int × Int
noncomputable def ref01_digits_2_0_enc : ref01_digits_2_0_D → St := fun d => ⟨[.str d.1, .int .i64 d.2.1, .undef, .undef, .undef, .int .i64 d.2.2, .undef, .undef, .undef, .undef, .undef, .undef, .undef, .undef, .undef, .undef, .undef, .undef, .undef, .undef, .undef, .undef, .undef, .undef, .undef, .undef, .undef, .undef, .undef, .undef, .undef], []⟩
noncomputable def ref01_digits_2_0_x0 {R : Type} (K : Ex → St → Option R) (q0 : Int) : Option R := K (.exit 0) ⟨[.undef, .undef, .undef, .undef, .undef, .int .i64 q0, .undef, .undef, .undef, .undef, .undef, .undef, .undef, .undef, .undef, .undef, .undef, .undef, .undef, .undef, .undef, .undef, .undef, .undef, .undef, .undef, .undef, .undef, .undef, .undef, .undef], []⟩
noncomputable def ref01_digits_2_0_s {R : Type} (K : Ex → St → Option R) (rc : ref01_digits_2_0_D → Option R) (d : ref01_digits_2_0_D) : Option R := ref01_digits_2_0_B (fun z0 z1 z2 => rc (z0, z1, z2)) d.1 d.2.1 d.2.2 (ref01_digits_2_0_x0 K)
noncomputable def ref01_digits_2_0_A {R : Type} (K : Ex → St → Option R) (n : Nat) (d : ref01_digits_2_0_D) : Option R := ref01_digits_2_0_L n d.1 d.2.1 d.2.2 (ref01_digits_2_0_x0 K)
abbrev ref01_digits_2_0_p : List Pat := [.leaf (.str), .leaf (.int .i64), .leaf (.undef), .leaf (.undef), .leaf (.undef), .leaf (.int .i64), .leaf (.undef), .leaf (.undef), .leaf (.undef), .leaf (.undef), .leaf (.undef), .leaf (.undef), .leaf (.undef), .leaf (.undef), .leaf (.undef), .leaf (.undef), .leaf (.undef), .leaf (.undef), .leaf (.undef), .leaf (.undef), .leaf (.undef), .leaf (.undef), .leaf (.undef), .leaf (.undef), .leaf (.undef), .leaf (.undef), .leaf (.undef), .leaf (.undef), .leaf (.undef), .leaf (.undef), .leaf (.undef)]
abbrev ref01_digits_2_0_q : List HPat := []
noncomputable def ref01_digits_2_0_f (x : Pat.dens ref01_digits_2_0_p) (y : HPat.dens ref01_digits_2_0_q) : Nat := (List.length x.1 + Int.natAbs x.2.1 + Int.natAbs x.2.2.2.2.2.1 + 64)
noncomputable def ref01_digits_2_0_d (x : Pat.dens ref01_digits_2_0_p) (y : HPat.dens ref01_digits_2_0_q) : ref01_digits_2_0_D := (x.1, x.2.1, x.2.2.2.2.2.1)
noncomputable def ref01_digits_2_0_rr {R : Type} (L : ref01_digits_2_0_ty R) : Pat.dens ref01_digits_2_0_p → HPat.dens ref01_digits_2_0_q → (Ex → St → Option R) → Option R := fun x y K => L (ref01_digits_2_0_f x y) x.1 x.2.1 x.2.2.2.2.2.1 (ref01_digits_2_0_x0 K)
noncomputable def ref01_digits_T (R : Type) (ref01_digits_2_0_L : ref01_digits_2_0_ty R) : Nat → Option (Hint × LSpec R) := fun i => match i with
  | 2 => some (ref01_digits_2_0_h, (loopBy ref01_digits_2_0_p ref01_digits_2_0_q (ref01_digits_2_0_rr ref01_digits_2_0_L) loopNo))
  | _ => none

theorem ref01_digits_2_0_B_ok {R : Type} (ref01_digits_2_0_L : ref01_digits_2_0_ty R) (K : Ex → St → Option R) (rc : St → Option R) (d : ref01_digits_2_0_D) : roundOf tt (ref01_digits_E R) (ref01_digits_T R ref01_digits_2_0_L) 0 ((loopsOf (codeOf Tryd.f69)).getD 0 .skip) ref01_digits_2_0_h (ref01_digits_2_0_enc d) rc K = ref01_digits_2_0_s K (fun d => rc (ref01_digits_2_0_enc d)) d := by kernel_rfl
theorem ref01_digits_2_0_A_succ {R : Type} (K : Ex → St → Option R) (n : Nat) (d : ref01_digits_2_0_D) : ref01_digits_2_0_A K (n + 1) d = ref01_digits_2_0_s K (ref01_digits_2_0_A K n) d := by kernel_rfl
theorem ref01_digits_2_0_A_zero {R : Type} (K : Ex → St → Option R) (d : ref01_digits_2_0_D) : ref01_digits_2_0_A K 0 d = none := by kernel_rfl
theorem ref01_digits_2_0_e_ok (x : Pat.dens ref01_digits_2_0_p) (y : HPat.dens ref01_digits_2_0_q) : (⟨Pat.encL ref01_digits_2_0_p x, HPat.encL ref01_digits_2_0_q y⟩ : St) = ref01_digits_2_0_enc (ref01_digits_2_0_d x y) := by kernel_rfl
theorem ref01_digits_2_0_r_ok {R : Type} (x : Pat.dens ref01_digits_2_0_p) (y : HPat.dens ref01_digits_2_0_q) (K : Ex → St → Option R) : ref01_digits_2_0_rr (ref01_digits_2_0_L) x y K = ref01_digits_2_0_A K (ref01_digits_2_0_f x y) (ref01_digits_2_0_d x y) := by kernel_rfl
theorem ref01_digits_2_0_ok {R : Type} (other : LSpec R) (ho : LsOk tt (ref01_digits_E R) (ref01_digits_T R ref01_digits_2_0_L) 0 ((loopsOf (codeOf Tryd.f69)).getD 0 .skip) ref01_digits_2_0_h other) : LsOk tt (ref01_digits_E R) (ref01_digits_T R ref01_digits_2_0_L) 0 ((loopsOf (codeOf Tryd.f69)).getD 0 .skip) ref01_digits_2_0_h (loopBy ref01_digits_2_0_p ref01_digits_2_0_q (ref01_digits_2_0_rr (ref01_digits_2_0_L)) other) :=
  loopBy_tie (A := ref01_digits_2_0_A) ho (loop_tie ref01_digits_2_0_enc (ref01_digits_2_0_s) (ref01_digits_2_0_A) (ref01_digits_2_0_A_zero) (ref01_digits_2_0_B_ok ref01_digits_2_0_L) (ref01_digits_2_0_A_succ)) ref01_digits_2_0_f ref01_digits_2_0_d ref01_digits_2_0_e_ok (ref01_digits_2_0_r_ok)

noncomputable def ref01_digits_X {R : Type} (ref01_digits_2_0_L : ref01_digits_2_0_ty R) (x1 : Str) (x2 : Int) (k0 : Int → Option R) : Option R :=
  ref01_digits_2_0_L (List.length x1 + Int.natAbs x2 + Int.natAbs 0 + 64) x1 x2 0 (fun y7 => k0 y7)
noncomputable def ref01_digits {R : Type} : ref01_digits_ty R := fun x1 x2 k0 => ref01_digits_X ref01_digits_2_0_L x1 x2 k0
theorem ref01_digits_ok {R : Type} (ref01_digits_2_0_L : ref01_digits_2_0_ty R) (x1 : Str) (x2 : Int) (k : V → Heap → Option R) : funK tt (ref01_digits_E R) (ref01_digits_T R ref01_digits_2_0_L) false Tryd.f69 (codeOf Tryd.f69) [.str x1, .int .i64 x2] [] k =
    ref01_digits_X ref01_digits_2_0_L x1 x2 (fun q0 => k (.int .i64 q0) []) := by kernel_rfl
theorem ref01_digits_loops (R : Type) : ∀ a ∈ loopsOf (codeOf Tryd.f69), LoopOk tt (ref01_digits_E R) (ref01_digits_T R ref01_digits_2_0_L) 0 a := by
  refine loops_ok 1 (by kernel_rfl) fun i hi => ?_
  match i, hi with
  | 0, _ => exact loopOk_some (by kernel_rfl) (ref01_digits_2_0_ok _ loopNo_ok)
  | n + 1, hi => omega
theorem ref01_digits_S_ok (R : Type) (other : Yard.Spec R) (ho : Yard.Spec.Ok Tryd.prog 69 other) : Yard.Spec.Ok Tryd.prog 69 (specBy ref01_digits_p ref01_digits_q (ref01_digits_rr ref01_digits) other) :=
  specBy_ok ho (funK_sound TT mixed (ref01_digits_EOk R) (keep := false) rfl rfl rfl rfl 0 (ref01_digits_loops R)) fun (x : Pat.dens ref01_digits_p) (y : HPat.dens ref01_digits_q) k => ref01_digits_ok ref01_digits_2_0_L x.1 x.2.1 k

end Go.Proofs.YtifgegmnngfckaaDoor

/-
  Functions of the program as pure Lean functions, and the ties; printed by wip/tools/emit.py.
-/
set_option maxRecDepth 100000
set_option linter.unusedVariables false
namespace Go.Proofs.YtifgegmnngfckaaDoor
open Go Go.Yard

/-! ### humpyard/decimal.Add -/
abbrev decimal_Add_ty (R : Type) : Type := Dcm → Dcm → (Dcm → Bool → Option R) → Option R
abbrev decimal_Add_p : List Pat := [.agg [.int .i64, .int .i64], .agg [.int .i64, .int .i64]]
abbrev decimal_Add_q : List HPat := []
noncomputable def decimal_Add_rr {R : Type} (fn : decimal_Add_ty R) : Pat.dens decimal_Add_p → HPat.dens decimal_Add_q → (V → Heap → Option R) → Option R := fun x y k => fn (⟨x.1.1, x.1.2.1⟩ : Dcm) (⟨x.2.1.1, x.2.1.2.1⟩ : Dcm) (fun q0 q1 => k (.tuple [.agg [.int .i64 q0.mant, .int .i64 q0.exp], .bool q1]) [])
noncomputable def decimal_Add_E (R : Type) (decimal_Right : decimal_Right_ty R) (decimal_Make : decimal_Make_ty R) (decimal_shifted : decimal_shifted_ty R) : Env R := fun i => match i with
  | 30 => some (true, (specBy decimal_Right_p decimal_Right_q (decimal_Right_rr decimal_Right) specNo))
  | 32 => some (true, (specBy decimal_Make_p decimal_Make_q (decimal_Make_rr decimal_Make) specNo))
  | 68 => some (true, (specBy decimal_shifted_p decimal_shifted_q (decimal_shifted_rr decimal_shifted) specNo))
  | _ => none
theorem decimal_Add_EOk (R : Type) : EOk Tryd.prog (decimal_Add_E R decimal_Right decimal_Make decimal_shifted) := by
  intro i b sp h
  unfold decimal_Add_E at h
  split at h
  · cases h; exact ⟨(decimal_Right_S_ok R _ (specNo_ok _)), fun h => nomatch h⟩
  · cases h; exact ⟨(decimal_Make_S_ok R _ (specNo_ok _)), fun h => nomatch h⟩
  · cases h; exact ⟨(decimal_shifted_S_ok R _ (specNo_ok _)), fun h => nomatch h⟩
  · cases h

noncomputable def decimal_Add_T (R : Type) : Nat → Option (Hint × LSpec R) := fun i => match i with
  | _ => none

noncomputable def decimal_Add_X {R : Type} (decimal_Right : decimal_Right_ty R) (decimal_Make : decimal_Make_ty R) (decimal_shifted : decimal_shifted_ty R) (x1 : Dcm) (x2 : Dcm) (k0 : Dcm → Bool → Option R) : Option R :=
  decimal_Right x1 (fun y3 => bif (!y3) then (k0 (⟨0, 0⟩ : Dcm) false) else (decimal_Right x2 (fun y4 => bif (!y4) then (k0 (⟨0, 0⟩ : Dcm) false) else (bif (x1.mant == 0) then (k0 (⟨(IntKind.i64.wrap (x1.mant + x2.mant)), (IntKind.i64.wrap (x1.exp + x2.exp))⟩ : Dcm) true) else (bif (x2.mant == 0) then (k0 (⟨(IntKind.i64.wrap (x1.mant + x2.mant)), (IntKind.i64.wrap (x1.exp + x2.exp))⟩ : Dcm) true) else (decimal_shifted x1 (min x1.exp x2.exp) (fun y7 y8 => decimal_shifted x2 (min x1.exp x2.exp) (fun y9 y10 => bif (!y8) then (k0 (⟨0, 0⟩ : Dcm) false) else (bif (!y10) then (k0 (⟨0, 0⟩ : Dcm) false) else (decimal_Make (IntKind.i64.wrap (y7 + y9)) (min x1.exp x2.exp) (fun y12 y13 => k0 y12 y13)))))))))))
noncomputable def decimal_Add {R : Type} : decimal_Add_ty R := fun x1 x2 k0 => decimal_Add_X decimal_Right decimal_Make decimal_shifted x1 x2 k0
theorem decimal_Add_ok {R : Type} (decimal_Right : decimal_Right_ty R) (decimal_Make : decimal_Make_ty R) (decimal_shifted : decimal_shifted_ty R) (x1 : Dcm) (x2 : Dcm) (k : V → Heap → Option R) : funK tt (decimal_Add_E R decimal_Right decimal_Make decimal_shifted) (decimal_Add_T R) false Tryd.f37 (codeOf Tryd.f37) [.agg [.int .i64 x1.mant, .int .i64 x1.exp], .agg [.int .i64 x2.mant, .int .i64 x2.exp]] [] k =
    decimal_Add_X decimal_Right decimal_Make decimal_shifted x1 x2 (fun q0 q1 => k (.tuple [.agg [.int .i64 q0.mant, .int .i64 q0.exp], .bool q1]) []) := by kernel_rfl
theorem decimal_Add_loops (R : Type) : ∀ a ∈ loopsOf (codeOf Tryd.f37), LoopOk tt (decimal_Add_E R decimal_Right decimal_Make decimal_shifted) (decimal_Add_T R) 0 a := by
  refine loops_ok 0 (by kernel_rfl) fun i hi => ?_
  omega
theorem decimal_Add_S_ok (R : Type) (other : Yard.Spec R) (ho : Yard.Spec.Ok Tryd.prog 37 other) : Yard.Spec.Ok Tryd.prog 37 (specBy decimal_Add_p decimal_Add_q (decimal_Add_rr decimal_Add) other) :=
  specBy_ok ho (funK_sound TT mixed (decimal_Add_EOk R) (keep := false) rfl rfl rfl rfl 0 (decimal_Add_loops R)) fun (x : Pat.dens decimal_Add_p) (y : HPat.dens decimal_Add_q) k => decimal_Add_ok decimal_Right decimal_Make decimal_shifted (⟨x.1.1, x.1.2.1⟩ : Dcm) (⟨x.2.1.1, x.2.1.2.1⟩ : Dcm) k

/-! ### humpyard/humpyardref01.Right -/
abbrev ref01_Right_ty (R : Type) : Type := Dcm → (Bool → Option R) → Option R
abbrev ref01_Right_p : List Pat := [.agg [.int .i64, .int .i64]]
abbrev ref01_Right_q : List HPat := []
noncomputable def ref01_Right_rr {R : Type} (fn : ref01_Right_ty R) : Pat.dens ref01_Right_p → HPat.dens ref01_Right_q → (V → Heap → Option R) → Option R := fun x y k => fn (⟨x.1.1, x.1.2.1⟩ : Dcm) (fun q0 => k (.bool q0) [])
noncomputable def ref01_Right_E (R : Type) (ref01_Make : ref01_Make_ty R) : Env R := fun i => match i with
  | 35 => some (true, (specBy ref01_Make_p ref01_Make_q (ref01_Make_rr ref01_Make) specNo))
  | _ => none
theorem ref01_Right_EOk (R : Type) : EOk Tryd.prog (ref01_Right_E R ref01_Make) := by
  intro i b sp h
  unfold ref01_Right_E at h
  split at h
  · cases h; exact ⟨(ref01_Make_S_ok R _ (specNo_ok _)), fun h => nomatch h⟩
  · cases h

noncomputable def ref01_Right_T (R : Type) : Nat → Option (Hint × LSpec R) := fun i => match i with
  | _ => none

noncomputable def ref01_Right_X {R : Type} (ref01_Make : ref01_Make_ty R) (x1 : Dcm) (k0 : Bool → Option R) : Option R :=
  ref01_Make x1.mant x1.exp (fun y2 y3 => bif y3 then (k0 (y2.mant == x1.mant && (y2.exp == x1.exp && true))) else (k0 false))
noncomputable def ref01_Right {R : Type} : ref01_Right_ty R := fun x1 k0 => ref01_Right_X ref01_Make x1 k0
theorem ref01_Right_ok {R : Type} (ref01_Make : ref01_Make_ty R) (x1 : Dcm) (k : V → Heap → Option R) : funK tt (ref01_Right_E R ref01_Make) (ref01_Right_T R) false Tryd.f41 (codeOf Tryd.f41) [.agg [.int .i64 x1.mant, .int .i64 x1.exp]] [] k =
    ref01_Right_X ref01_Make x1 (fun q0 => k (.bool q0) []) := by kernel_rfl
theorem ref01_Right_loops (R : Type) : ∀ a ∈ loopsOf (codeOf Tryd.f41), LoopOk tt (ref01_Right_E R ref01_Make) (ref01_Right_T R) 0 a := by
  refine loops_ok 0 (by kernel_rfl) fun i hi => ?_
  omega
theorem ref01_Right_S_ok (R : Type) (other : Yard.Spec R) (ho : Yard.Spec.Ok Tryd.prog 41 other) : Yard.Spec.Ok Tryd.prog 41 (specBy ref01_Right_p ref01_Right_q (ref01_Right_rr ref01_Right) other) :=
  specBy_ok ho (funK_sound TT mixed (ref01_Right_EOk R) (keep := false) rfl rfl rfl rfl 0 (ref01_Right_loops R)) fun (x : Pat.dens ref01_Right_p) (y : HPat.dens ref01_Right_q) k => ref01_Right_ok ref01_Make (⟨x.1.1, x.1.2.1⟩ : Dcm) k

/-! ### humpyard/humpyardref01.Add -/
abbrev ref01_Add_ty (R : Type) : Type := Dcm → Dcm → (Dcm → Bool → Option R) → Option R
abbrev ref01_Add_p : List Pat := [.agg [.int .i64, .int .i64], .agg [.int .i64, .int .i64]]
abbrev ref01_Add_q : List HPat := []
noncomputable def ref01_Add_rr {R : Type} (fn : ref01_Add_ty R) : Pat.dens ref01_Add_p → HPat.dens ref01_Add_q → (V → Heap → Option R) → Option R := fun x y k => fn (⟨x.1.1, x.1.2.1⟩ : Dcm) (⟨x.2.1.1, x.2.1.2.1⟩ : Dcm) (fun q0 q1 => k (.tuple [.agg [.int .i64 q0.mant, .int .i64 q0.exp], .bool q1]) [])
abbrev ref01_Add_13_0_ty (R : Type) : Type := Nat → Int → Int → Int → Int → Dcm → Dcm → Dcm → (Int → Int → Int → Dcm → Dcm → Option R) → (Bool → Int → Int → Int → Dcm → Dcm → Option R) → Option R
abbrev ref01_Add_19_0_ty (R : Type) : Type := Nat → Int → Int → Int → Int → Dcm → Dcm → (Int → Int → Int → Dcm → Option R) → (Bool → Int → Int → Int → Dcm → Option R) → Option R
noncomputable def ref01_Add_E (R : Type) (ref01_Make : ref01_Make_ty R) (ref01_Right : ref01_Right_ty R) : Env R := fun i => match i with
  | 35 => some (true, (specBy ref01_Make_p ref01_Make_q (ref01_Make_rr ref01_Make) specNo))
  | 41 => some (true, (specBy ref01_Right_p ref01_Right_q (ref01_Right_rr ref01_Right) specNo))
  | _ => none
theorem ref01_Add_EOk (R : Type) : EOk Tryd.prog (ref01_Add_E R ref01_Make ref01_Right) := by
  intro i b sp h
  unfold ref01_Add_E at h
  split at h
  · cases h; exact ⟨(ref01_Make_S_ok R _ (specNo_ok _)), fun h => nomatch h⟩
  · cases h; exact ⟨(ref01_Right_S_ok R _ (specNo_ok _)), fun h => nomatch h⟩
  · cases h

noncomputable def ref01_Add_13_0_B {R : Type} (rec' : Int → Int → Int → Int → Dcm → Dcm → Dcm → Option R) (x6 : Int) (x7 : Int) (x8 : Int) (x9 : Int) (x10 : Dcm) (x11 : Dcm) (x12 : Dcm) (e0 : Int → Int → Int → Dcm → Dcm → Option R) (e1 : Bool → Int → Int → Int → Dcm → Dcm → Option R) : Option R :=
  bif (decide (x9 < x10.exp)) then (bif (decide (x7 > (288230376151711744 : Int))) then (e1 false x6 x7 x8 x11 (⟨0, 0⟩ : Dcm)) else (bif (decide (x7 < (-288230376151711744 : Int))) then (e1 false x6 x7 x8 x11 (⟨0, 0⟩ : Dcm)) else (rec' x6 (IntKind.i64.wrap (10 * x7)) x8 (IntKind.i64.wrap (x9 + 1)) x10 x11 x12))) else (e0 x6 x7 x8 x11 x12)
noncomputable def ref01_Add_13_0_L {R : Type} : ref01_Add_13_0_ty R
  | 0, _, _, _, _, _, _, _, _, _ => none
  | n + 1, x0', x1', x2', x3', x4', x5', x6', e0, e1 => ref01_Add_13_0_B (fun x0' x1' x2' x3' x4' x5' x6' => ref01_Add_13_0_L n x0' x1' x2' x3' x4' x5' x6' e0 e1) x0' x1' x2' x3' x4' x5' x6' e0 e1
noncomputable def ref01_Add_13_0_h : Hint := { live := [2, 3, 4, 8, 9, 10, 11], own := [], rows := [], cells := [], drop := [], out := [3, 4, 5, 8, 9, 10] }
abbrev ref01_Add_13_0_D : Type := Int × Int × Int × Int × Dcm × Dcm × Dcm
noncomputable def ref01_Add_13_0_enc : ref01_Add_13_0_D → St := fun d => ⟨[.undef, .undef, .ptr 0 0, .ptr 1 0, .ptr 2 0, .undef, .undef, .undef, .int .i64 d.1, .int .i64 d.2.1, .int .i64 d.2.2.1, .int .i64 d.2.2.2.1, .undef, .undef, .undef, .undef, .undef, .undef, .undef, .undef, .undef, .undef, .undef, .undef, .undef, .undef, .undef, .undef, .undef, .undef, .undef, .undef, .undef, .undef, .undef, .undef, .undef, .undef, .undef, .undef, .undef, .undef, .undef, .undef, .undef, .undef, .undef, .undef, .undef, .undef, .undef, .undef, .undef, .undef, .undef, .undef, .undef, .undef, .undef, .undef, .undef, .undef, .undef, .undef, .undef, .undef, .undef, .undef, .undef, .undef, .undef, .undef, .undef, .undef, .undef, .undef, .undef, .undef, .undef, .undef], [.cells [.int .i64 d.2.2.2.2.1.mant, .int .i64 d.2.2.2.2.1.exp], .cells [.int .i64 d.2.2.2.2.2.1.mant, .int .i64 d.2.2.2.2.2.1.exp], .cells [.int .i64 d.2.2.2.2.2.2.mant, .int .i64 d.2.2.2.2.2.2.exp]]⟩
noncomputable def ref01_Add_13_0_x0 {R : Type} (K : Ex → St → Option R) (q0 : Int) (q1 : Int) (q2 : Int) (q3 : Dcm) (q4 : Dcm) : Option R := K (.exit 0) ⟨[.undef, .undef, .undef, .ptr 0 0, .ptr 1 0, .undef, .undef, .undef, .int .i64 q0, .int .i64 q1, .int .i64 q2, .undef, .undef, .undef, .undef, .undef, .undef, .undef, .undef, .undef, .undef, .undef, .undef, .undef, .undef, .undef, .undef, .undef, .undef, .undef, .undef, .undef, .undef, .undef, .undef, .undef, .undef, .undef, .undef, .undef, .undef, .undef, .undef, .undef, .undef, .undef, .undef, .undef, .undef, .undef, .undef, .undef, .undef, .undef, .undef, .undef, .undef, .undef, .undef, .undef, .undef, .undef, .undef, .undef, .undef, .undef, .undef, .undef, .undef, .undef, .undef, .undef, .undef, .undef, .undef, .undef, .undef, .undef, .undef, .undef], [.cells [.int .i64 q3.mant, .int .i64 q3.exp], .cells [.int .i64 q4.mant, .int .i64 q4.exp]]⟩
noncomputable def ref01_Add_13_0_x1 {R : Type} (K : Ex → St → Option R) (q0 : Bool) (q1 : Int) (q2 : Int) (q3 : Int) (q4 : Dcm) (q5 : Dcm) : Option R := K (.ret) ⟨[.undef, .undef, .undef, .ptr 0 0, .ptr 1 0, .bool q0, .undef, .undef, .int .i64 q1, .int .i64 q2, .int .i64 q3, .undef, .undef, .undef, .undef, .undef, .undef, .undef, .undef, .undef, .undef, .undef, .undef, .undef, .undef, .undef, .undef, .undef, .undef, .undef, .undef, .undef, .undef, .undef, .undef, .undef, .undef, .undef, .undef, .undef, .undef, .undef, .undef, .undef, .undef, .undef, .undef, .undef, .undef, .undef, .undef, .undef, .undef, .undef, .undef, .undef, .undef, .undef, .undef, .undef, .undef, .undef, .undef, .undef, .undef, .undef, .undef, .undef, .undef, .undef, .undef, .undef, .undef, .undef, .undef, .undef, .undef, .undef, .undef, .undef], [.cells [.int .i64 q4.mant, .int .i64 q4.exp], .cells [.int .i64 q5.mant, .int .i64 q5.exp]]⟩
noncomputable def ref01_Add_13_0_s {R : Type} (K : Ex → St → Option R) (rc : ref01_Add_13_0_D → Option R) (d : ref01_Add_13_0_D) : Option R := ref01_Add_13_0_B (fun z0 z1 z2 z3 z4 z5 z6 => rc (z0, z1, z2, z3, z4, z5, z6)) d.1 d.2.1 d.2.2.1 d.2.2.2.1 d.2.2.2.2.1 d.2.2.2.2.2.1 d.2.2.2.2.2.2 (ref01_Add_13_0_x0 K) (ref01_Add_13_0_x1 K)
noncomputable def ref01_Add_13_0_A {R : Type} (K : Ex → St → Option R) (n : Nat) (d : ref01_Add_13_0_D) : Option R := ref01_Add_13_0_L n d.1 d.2.1 d.2.2.1 d.2.2.2.1 d.2.2.2.2.1 d.2.2.2.2.2.1 d.2.2.2.2.2.2 (ref01_Add_13_0_x0 K) (ref01_Add_13_0_x1 K)
abbrev ref01_Add_13_0_p : List Pat := [.leaf (.undef), .leaf (.undef), .leaf (.ptr 0 0), .leaf (.ptr 1 0), .leaf (.ptr 2 0), .leaf (.undef), .leaf (.undef), .leaf (.undef), .leaf (.int .i64), .leaf (.int .i64), .leaf (.int .i64), .leaf (.int .i64), .leaf (.undef), .leaf (.undef), .leaf (.undef), .leaf (.undef), .leaf (.undef), .leaf (.undef), .leaf (.undef), .leaf (.undef), .leaf (.undef), .leaf (.undef), .leaf (.undef), .leaf (.undef), .leaf (.undef), .leaf (.undef), .leaf (.undef), .leaf (.undef), .leaf (.undef), .leaf (.undef), .leaf (.undef), .leaf (.undef), .leaf (.undef), .leaf (.undef), .leaf (.undef), .leaf (.undef), .leaf (.undef), .leaf (.undef), .leaf (.undef), .leaf (.undef), .leaf (.undef), .leaf (.undef), .leaf (.undef), .leaf (.undef), .leaf (.undef), .leaf (.undef), .leaf (.undef), .leaf (.undef), .leaf (.undef), .leaf (.undef), .leaf (.undef), .leaf (.undef), .leaf (.undef), .leaf (.undef), .leaf (.undef), .leaf (.undef), .leaf (.undef), .leaf (.undef), .leaf (.undef), .leaf (.undef), .leaf (.undef), .leaf (.undef), .leaf (.undef), .leaf (.undef), .leaf (.undef), .leaf (.undef), .leaf (.undef), .leaf (.undef), .leaf (.undef), .leaf (.undef), .leaf (.undef), .leaf (.undef), .leaf (.undef), .leaf (.undef), .leaf (.undef), .leaf (.undef), .leaf (.undef), .leaf (.undef), .leaf (.undef), .leaf (.undef)]
abbrev ref01_Add_13_0_q : List HPat := [.cells [.int .i64, .int .i64], .cells [.int .i64, .int .i64], .cells [.int .i64, .int .i64]]
noncomputable def ref01_Add_13_0_f (x : Pat.dens ref01_Add_13_0_p) (y : HPat.dens ref01_Add_13_0_q) : Nat := (Int.natAbs x.2.2.2.2.2.2.2.2.1 + Int.natAbs x.2.2.2.2.2.2.2.2.2.1 + Int.natAbs x.2.2.2.2.2.2.2.2.2.2.1 + Int.natAbs x.2.2.2.2.2.2.2.2.2.2.2.1 + Dcm.fu (⟨y.1.1, y.1.2.1⟩ : Dcm) + Dcm.fu (⟨y.2.1.1, y.2.1.2.1⟩ : Dcm) + Dcm.fu (⟨y.2.2.1.1, y.2.2.1.2.1⟩ : Dcm) + 64)
noncomputable def ref01_Add_13_0_d (x : Pat.dens ref01_Add_13_0_p) (y : HPat.dens ref01_Add_13_0_q) : ref01_Add_13_0_D := (x.2.2.2.2.2.2.2.2.1, x.2.2.2.2.2.2.2.2.2.1, x.2.2.2.2.2.2.2.2.2.2.1, x.2.2.2.2.2.2.2.2.2.2.2.1, (⟨y.1.1, y.1.2.1⟩ : Dcm), (⟨y.2.1.1, y.2.1.2.1⟩ : Dcm), (⟨y.2.2.1.1, y.2.2.1.2.1⟩ : Dcm))
noncomputable def ref01_Add_13_0_rr {R : Type} (L : ref01_Add_13_0_ty R) : Pat.dens ref01_Add_13_0_p → HPat.dens ref01_Add_13_0_q → (Ex → St → Option R) → Option R := fun x y K => L (ref01_Add_13_0_f x y) x.2.2.2.2.2.2.2.2.1 x.2.2.2.2.2.2.2.2.2.1 x.2.2.2.2.2.2.2.2.2.2.1 x.2.2.2.2.2.2.2.2.2.2.2.1 (⟨y.1.1, y.1.2.1⟩ : Dcm) (⟨y.2.1.1, y.2.1.2.1⟩ : Dcm) (⟨y.2.2.1.1, y.2.2.1.2.1⟩ : Dcm) (ref01_Add_13_0_x0 K) (ref01_Add_13_0_x1 K)
noncomputable def ref01_Add_19_0_B {R : Type} (rec' : Int → Int → Int → Int → Dcm → Dcm → Option R) (x25 : Int) (x26 : Int) (x27 : Int) (x28 : Int) (x29 : Dcm) (x30 : Dcm) (e0 : Int → Int → Int → Dcm → Option R) (e1 : Bool → Int → Int → Int → Dcm → Option R) : Option R :=
  bif (decide (x28 < x29.exp)) then (bif (decide (x27 > (288230376151711744 : Int))) then (e1 false x25 x26 x27 (⟨0, 0⟩ : Dcm)) else (bif (decide (x27 < (-288230376151711744 : Int))) then (e1 false x25 x26 x27 (⟨0, 0⟩ : Dcm)) else (rec' x25 x26 (IntKind.i64.wrap (10 * x27)) (IntKind.i64.wrap (x28 + 1)) x29 x30))) else (e0 x25 x26 x27 x30)
noncomputable def ref01_Add_19_0_L {R : Type} : ref01_Add_19_0_ty R
  | 0, _, _, _, _, _, _, _, _ => none
  | n + 1, x0', x1', x2', x3', x4', x5', e0, e1 => ref01_Add_19_0_B (fun x0' x1' x2' x3' x4' x5' => ref01_Add_19_0_L n x0' x1' x2' x3' x4' x5' e0 e1) x0' x1' x2' x3' x4' x5' e0 e1
noncomputable def ref01_Add_19_0_h : Hint := { live := [3, 4, 8, 9, 10, 12], own := [], rows := [], cells := [], drop := [], out := [4, 5, 8, 9, 10] }
abbrev ref01_Add_19_0_D : Type := Int × Int × Int × Int × Dcm × Dcm
noncomputable def ref01_Add_19_0_enc : ref01_Add_19_0_D → St := fun d => ⟨[.undef, .undef, .undef, .ptr 0 0, .ptr 1 0, .undef, .undef, .undef, .int .i64 d.1, .int .i64 d.2.1, .int .i64 d.2.2.1, .undef, .int .i64 d.2.2.2.1, .undef, .undef, .undef, .undef, .undef, .undef, .undef, .undef, .undef, .undef, .undef, .undef, .undef, .undef, .undef, .undef, .undef, .undef, .undef, .undef, .undef, .undef, .undef, .undef, .undef, .undef, .undef, .undef, .undef, .undef, .undef, .undef, .undef, .undef, .undef, .undef, .undef, .undef, .undef, .undef, .undef, .undef, .undef, .undef, .undef, .undef, .undef, .undef, .undef, .undef, .undef, .undef, .undef, .undef, .undef, .undef, .undef, .undef, .undef, .undef, .undef, .undef, .undef, .undef, .undef, .undef, .undef], [.cells [.int .i64 d.2.2.2.2.1.mant, .int .i64 d.2.2.2.2.1.exp], .cells [.int .i64 d.2.2.2.2.2.mant, .int .i64 d.2.2.2.2.2.exp]]⟩
noncomputable def ref01_Add_19_0_x0 {R : Type} (K : Ex → St → Option R) (q0 : Int) (q1 : Int) (q2 : Int) (q3 : Dcm) : Option R := K (.exit 2) ⟨[.undef, .undef, .undef, .undef, .ptr 0 0, .undef, .undef, .undef, .int .i64 q0, .int .i64 q1, .int .i64 q2, .undef, .undef, .undef, .undef, .undef, .undef, .undef, .undef, .undef, .undef, .undef, .undef, .undef, .undef, .undef, .undef, .undef, .undef, .undef, .undef, .undef, .undef, .undef, .undef, .undef, .undef, .undef, .undef, .undef, .undef, .undef, .undef, .undef, .undef, .undef, .undef, .undef, .undef, .undef, .undef, .undef, .undef, .undef, .undef, .undef, .undef, .undef, .undef, .undef, .undef, .undef, .undef, .undef, .undef, .undef, .undef, .undef, .undef, .undef, .undef, .undef, .undef, .undef, .undef, .undef, .undef, .undef, .undef, .undef], [.cells [.int .i64 q3.mant, .int .i64 q3.exp]]⟩
noncomputable def ref01_Add_19_0_x1 {R : Type} (K : Ex → St → Option R) (q0 : Bool) (q1 : Int) (q2 : Int) (q3 : Int) (q4 : Dcm) : Option R := K (.ret) ⟨[.undef, .undef, .undef, .undef, .ptr 0 0, .bool q0, .undef, .undef, .int .i64 q1, .int .i64 q2, .int .i64 q3, .undef, .undef, .undef, .undef, .undef, .undef, .undef, .undef, .undef, .undef, .undef, .undef, .undef, .undef, .undef, .undef, .undef, .undef, .undef, .undef, .undef, .undef, .undef, .undef, .undef, .undef, .undef, .undef, .undef, .undef, .undef, .undef, .undef, .undef, .undef, .undef, .undef, .undef, .undef, .undef, .undef, .undef, .undef, .undef, .undef, .undef, .undef, .undef, .undef, .undef, .undef, .undef, .undef, .undef, .undef, .undef, .undef, .undef, .undef, .undef, .undef, .undef, .undef, .undef, .undef, .undef, .undef, .undef, .undef], [.cells [.int .i64 q4.mant, .int .i64 q4.exp]]⟩
noncomputable def ref01_Add_19_0_s {R : Type} (K : Ex → St → Option R) (rc : ref01_Add_19_0_D → Option R) (d : ref01_Add_19_0_D) : Option R := ref01_Add_19_0_B (fun z0 z1 z2 z3 z4 z5 => rc (z0, z1, z2, z3, z4, z5)) d.1 d.2.1 d.2.2.1 d.2.2.2.1 d.2.2.2.2.1 d.2.2.2.2.2 (ref01_Add_19_0_x0 K) (ref01_Add_19_0_x1 K)
noncomputable def ref01_Add_19_0_A {R : Type} (K : Ex → St → Option R) (n : Nat) (d : ref01_Add_19_0_D) : Option R := ref01_Add_19_0_L n d.1 d.2.1 d.2.2.1 d.2.2.2.1 d.2.2.2.2.1 d.2.2.2.2.2 (ref01_Add_19_0_x0 K) (ref01_Add_19_0_x1 K)
abbrev ref01_Add_19_0_p : List Pat := [.leaf (.undef), .leaf (.undef), .leaf (.undef), .leaf (.ptr 0 0), .leaf (.ptr 1 0), .leaf (.undef), .leaf (.undef), .leaf (.undef), .leaf (.int .i64), .leaf (.int .i64), .leaf (.int .i64), .leaf (.undef), .leaf (.int .i64), .leaf (.undef), .leaf (.undef), .leaf (.undef), .leaf (.undef), .leaf (.undef), .leaf (.undef), .leaf (.undef), .leaf (.undef), .leaf (.undef), .leaf (.undef), .leaf (.undef), .leaf (.undef), .leaf (.undef), .leaf (.undef), .leaf (.undef), .leaf (.undef), .leaf (.undef), .leaf (.undef), .leaf (.undef), .leaf (.undef), .leaf (.undef), .leaf (.undef), .leaf (.undef), .leaf (.undef), .leaf (.undef), .leaf (.undef), .leaf (.undef), .leaf (.undef), .leaf (.undef), .leaf (.undef), .leaf (.undef), .leaf (.undef), .leaf (.undef), .leaf (.undef), .leaf (.undef), .leaf (.undef), .leaf (.undef), .leaf (.undef), .leaf (.undef), .leaf (.undef), .leaf (.undef), .leaf (.undef), .leaf (.undef), .leaf (.undef), .leaf (.undef), .leaf (.undef), .leaf (.undef), .leaf (.undef), .leaf (.undef), .leaf (.undef), .leaf (.undef), .leaf (.undef), .leaf (.undef), .leaf (.undef), .leaf (.undef), .leaf (.undef), .leaf (.undef), .leaf (.undef), .leaf (.undef), .leaf (.undef), .leaf (.undef), .leaf (.undef), .leaf (.undef), .leaf (.undef), .leaf (.undef), .leaf (.undef), .leaf (.undef)]
abbrev ref01_Add_19_0_q : List HPat := [.cells [.int .i64, .int .i64], .cells [.int .i64, .int .i64]]
noncomputable def ref01_Add_19_0_f (x : Pat.dens ref01_Add_19_0_p) (y : HPat.dens ref01_Add_19_0_q) : Nat := (Int.natAbs x.2.2.2.2.2.2.2.2.1 + Int.natAbs x.2.2.2.2.2.2.2.2.2.1 + Int.natAbs x.2.2.2.2.2.2.2.2.2.2.1 + Int.natAbs x.2.2.2.2.2.2.2.2.2.2.2.2.1 + Dcm.fu (⟨y.1.1, y.1.2.1⟩ : Dcm) + Dcm.fu (⟨y.2.1.1, y.2.1.2.1⟩ : Dcm) + 64)
noncomputable def ref01_Add_19_0_d (x : Pat.dens ref01_Add_19_0_p) (y : HPat.dens ref01_Add_19_0_q) : ref01_Add_19_0_D := (x.2.2.2.2.2.2.2.2.1, x.2.2.2.2.2.2.2.2.2.1, x.2.2.2.2.2.2.2.2.2.2.1, x.2.2.2.2.2.2.2.2.2.2.2.2.1, (⟨y.1.1, y.1.2.1⟩ : Dcm), (⟨y.2.1.1, y.2.1.2.1⟩ : Dcm))
noncomputable def ref01_Add_19_0_rr {R : Type} (L : ref01_Add_19_0_ty R) : Pat.dens ref01_Add_19_0_p → HPat.dens ref01_Add_19_0_q → (Ex → St → Option R) → Option R := fun x y K => L (ref01_Add_19_0_f x y) x.2.2.2.2.2.2.2.2.1 x.2.2.2.2.2.2.2.2.2.1 x.2.2.2.2.2.2.2.2.2.2.1 x.2.2.2.2.2.2.2.2.2.2.2.2.1 (⟨y.1.1, y.1.2.1⟩ : Dcm) (⟨y.2.1.1, y.2.1.2.1⟩ : Dcm) (ref01_Add_19_0_x0 K) (ref01_Add_19_0_x1 K)
noncomputable def ref01_Add_T (R : Type) (ref01_Add_13_0_L : ref01_Add_13_0_ty R) (ref01_Add_19_0_L : ref01_Add_19_0_ty R) : Nat → Option (Hint × LSpec R) := fun i => match i with
  | 13 => some (ref01_Add_13_0_h, (loopBy ref01_Add_13_0_p ref01_Add_13_0_q (ref01_Add_13_0_rr ref01_Add_13_0_L) loopNo))
  | 19 => some (ref01_Add_19_0_h, (loopBy ref01_Add_19_0_p ref01_Add_19_0_q (ref01_Add_19_0_rr ref01_Add_19_0_L) loopNo))
  | _ => none

theorem ref01_Add_13_0_B_ok {R : Type} (ref01_Make : ref01_Make_ty R) (ref01_Right : ref01_Right_ty R) (ref01_Add_13_0_L : ref01_Add_13_0_ty R) (ref01_Add_19_0_L : ref01_Add_19_0_ty R) (K : Ex → St → Option R) (rc : St → Option R) (d : ref01_Add_13_0_D) : roundOf tt (ref01_Add_E R ref01_Make ref01_Right) (ref01_Add_T R ref01_Add_13_0_L ref01_Add_19_0_L) 0 ((loopsOf (codeOf Tryd.f38)).getD 0 .skip) ref01_Add_13_0_h (ref01_Add_13_0_enc d) rc K = ref01_Add_13_0_s K (fun d => rc (ref01_Add_13_0_enc d)) d := by kernel_rfl
theorem ref01_Add_13_0_A_succ {R : Type} (K : Ex → St → Option R) (n : Nat) (d : ref01_Add_13_0_D) : ref01_Add_13_0_A K (n + 1) d = ref01_Add_13_0_s K (ref01_Add_13_0_A K n) d := by kernel_rfl
theorem ref01_Add_13_0_A_zero {R : Type} (K : Ex → St → Option R) (d : ref01_Add_13_0_D) : ref01_Add_13_0_A K 0 d = none := by kernel_rfl
theorem ref01_Add_13_0_e_ok (x : Pat.dens ref01_Add_13_0_p) (y : HPat.dens ref01_Add_13_0_q) : (⟨Pat.encL ref01_Add_13_0_p x, HPat.encL ref01_Add_13_0_q y⟩ : St) = ref01_Add_13_0_enc (ref01_Add_13_0_d x y) := by kernel_rfl
theorem ref01_Add_13_0_r_ok {R : Type} (x : Pat.dens ref01_Add_13_0_p) (y : HPat.dens ref01_Add_13_0_q) (K : Ex → St → Option R) : ref01_Add_13_0_rr (ref01_Add_13_0_L) x y K = ref01_Add_13_0_A K (ref01_Add_13_0_f x y) (ref01_Add_13_0_d x y) := by kernel_rfl
theorem ref01_Add_13_0_ok {R : Type} (other : LSpec R) (ho : LsOk tt (ref01_Add_E R ref01_Make ref01_Right) (ref01_Add_T R ref01_Add_13_0_L ref01_Add_19_0_L) 0 ((loopsOf (codeOf Tryd.f38)).getD 0 .skip) ref01_Add_13_0_h other) : LsOk tt (ref01_Add_E R ref01_Make ref01_Right) (ref01_Add_T R ref01_Add_13_0_L ref01_Add_19_0_L) 0 ((loopsOf (codeOf Tryd.f38)).getD 0 .skip) ref01_Add_13_0_h (loopBy ref01_Add_13_0_p ref01_Add_13_0_q (ref01_Add_13_0_rr (ref01_Add_13_0_L)) other) :=
  loopBy_tie (A := ref01_Add_13_0_A) ho (loop_tie ref01_Add_13_0_enc (ref01_Add_13_0_s) (ref01_Add_13_0_A) (ref01_Add_13_0_A_zero) (ref01_Add_13_0_B_ok ref01_Make ref01_Right ref01_Add_13_0_L ref01_Add_19_0_L) (ref01_Add_13_0_A_succ)) ref01_Add_13_0_f ref01_Add_13_0_d ref01_Add_13_0_e_ok (ref01_Add_13_0_r_ok)

theorem ref01_Add_19_0_B_ok {R : Type} (ref01_Make : ref01_Make_ty R) (ref01_Right : ref01_Right_ty R) (ref01_Add_13_0_L : ref01_Add_13_0_ty R) (ref01_Add_19_0_L : ref01_Add_19_0_ty R) (K : Ex → St → Option R) (rc : St → Option R) (d : ref01_Add_19_0_D) : roundOf tt (ref01_Add_E R ref01_Make ref01_Right) (ref01_Add_T R ref01_Add_13_0_L ref01_Add_19_0_L) 0 ((loopsOf (codeOf Tryd.f38)).getD 1 .skip) ref01_Add_19_0_h (ref01_Add_19_0_enc d) rc K = ref01_Add_19_0_s K (fun d => rc (ref01_Add_19_0_enc d)) d := by kernel_rfl
theorem ref01_Add_19_0_A_succ {R : Type} (K : Ex → St → Option R) (n : Nat) (d : ref01_Add_19_0_D) : ref01_Add_19_0_A K (n + 1) d = ref01_Add_19_0_s K (ref01_Add_19_0_A K n) d := by kernel_rfl
theorem ref01_Add_19_0_A_zero {R : Type} (K : Ex → St → Option R) (d : ref01_Add_19_0_D) : ref01_Add_19_0_A K 0 d = none := by kernel_rfl
theorem ref01_Add_19_0_e_ok (x : Pat.dens ref01_Add_19_0_p) (y : HPat.dens ref01_Add_19_0_q) : (⟨Pat.encL ref01_Add_19_0_p x, HPat.encL ref01_Add_19_0_q y⟩ : St) = ref01_Add_19_0_enc (ref01_Add_19_0_d x y) := by kernel_rfl
theorem ref01_Add_19_0_r_ok {R : Type} (x : Pat.dens ref01_Add_19_0_p) (y : HPat.dens ref01_Add_19_0_q) (K : Ex → St → Option R) : ref01_Add_19_0_rr (ref01_Add_19_0_L) x y K = ref01_Add_19_0_A K (ref01_Add_19_0_f x y) (ref01_Add_19_0_d x y) := by kernel_rfl
theorem ref01_Add_19_0_ok {R : Type} (other : LSpec R) (ho : LsOk tt (ref01_Add_E R ref01_Make ref01_Right) (ref01_Add_T R ref01_Add_13_0_L ref01_Add_19_0_L) 0 ((loopsOf (codeOf Tryd.f38)).getD 1 .skip) ref01_Add_19_0_h other) : LsOk tt (ref01_Add_E R ref01_Make ref01_Right) (ref01_Add_T R ref01_Add_13_0_L ref01_Add_19_0_L) 0 ((loopsOf (codeOf Tryd.f38)).getD 1 .skip) ref01_Add_19_0_h (loopBy ref01_Add_19_0_p ref01_Add_19_0_q (ref01_Add_19_0_rr (ref01_Add_19_0_L)) other) :=
  loopBy_tie (A := ref01_Add_19_0_A) ho (loop_tie ref01_Add_19_0_enc (ref01_Add_19_0_s) (ref01_Add_19_0_A) (ref01_Add_19_0_A_zero) (ref01_Add_19_0_B_ok ref01_Make ref01_Right ref01_Add_13_0_L ref01_Add_19_0_L) (ref01_Add_19_0_A_succ)) ref01_Add_19_0_f ref01_Add_19_0_d ref01_Add_19_0_e_ok (ref01_Add_19_0_r_ok)

noncomputable def ref01_Add_X {R : Type} (ref01_Make : ref01_Make_ty R) (ref01_Right : ref01_Right_ty R) (ref01_Add_13_0_L : ref01_Add_13_0_ty R) (ref01_Add_19_0_L : ref01_Add_19_0_ty R) (x1 : Dcm) (x2 : Dcm) (k0 : Dcm → Bool → Option R) : Option R :=
  ref01_Right x1 (fun y3 => ref01_Right x2 (fun y4 => bif (!y3) then (k0 (⟨0, 0⟩ : Dcm) false) else (bif (!y4) then (k0 (⟨0, 0⟩ : Dcm) false) else (bif (x1.mant == 0) then (k0 x2 true) else (bif (x2.mant == 0) then (k0 x1 true) else (ref01_Add_13_0_L (Int.natAbs (min x1.exp x2.exp) + Int.natAbs x1.mant + Int.natAbs x2.mant + Int.natAbs (min x1.exp x2.exp) + Dcm.fu x1 + Dcm.fu x2 + Dcm.fu (⟨0, 0⟩ : Dcm) + 64) (min x1.exp x2.exp) x1.mant x2.mant (min x1.exp x2.exp) x1 x2 (⟨0, 0⟩ : Dcm) (fun y14 y15 y16 y17 y18 => ref01_Add_19_0_L (Int.natAbs y14 + Int.natAbs y15 + Int.natAbs y16 + Int.natAbs y14 + Dcm.fu y17 + Dcm.fu y18 + 64) y14 y15 y16 y14 y17 y18 (fun y32 y33 y34 y35 => ref01_Make (IntKind.i64.wrap (y33 + y34)) y32 (fun y41 y42 => k0 y41 y42)) (fun y36 y37 y38 y39 y40 => k0 y40 y36)) (fun y19 y20 y21 y22 y23 y24 => k0 y24 y19)))))))
noncomputable def ref01_Add {R : Type} : ref01_Add_ty R := fun x1 x2 k0 => ref01_Add_X ref01_Make ref01_Right ref01_Add_13_0_L ref01_Add_19_0_L x1 x2 k0
theorem ref01_Add_ok {R : Type} (ref01_Make : ref01_Make_ty R) (ref01_Right : ref01_Right_ty R) (ref01_Add_13_0_L : ref01_Add_13_0_ty R) (ref01_Add_19_0_L : ref01_Add_19_0_ty R) (x1 : Dcm) (x2 : Dcm) (k : V → Heap → Option R) : funK tt (ref01_Add_E R ref01_Make ref01_Right) (ref01_Add_T R ref01_Add_13_0_L ref01_Add_19_0_L) false Tryd.f38 (codeOf Tryd.f38) [.agg [.int .i64 x1.mant, .int .i64 x1.exp], .agg [.int .i64 x2.mant, .int .i64 x2.exp]] [] k =
    ref01_Add_X ref01_Make ref01_Right ref01_Add_13_0_L ref01_Add_19_0_L x1 x2 (fun q0 q1 => k (.tuple [.agg [.int .i64 q0.mant, .int .i64 q0.exp], .bool q1]) []) := by kernel_rfl
theorem ref01_Add_loops (R : Type) : ∀ a ∈ loopsOf (codeOf Tryd.f38), LoopOk tt (ref01_Add_E R ref01_Make ref01_Right) (ref01_Add_T R ref01_Add_13_0_L ref01_Add_19_0_L) 0 a := by
  refine loops_ok 2 (by kernel_rfl) fun i hi => ?_
  match i, hi with
  | 0, _ => exact loopOk_some (by kernel_rfl) (ref01_Add_13_0_ok _ loopNo_ok)
  | 1, _ => exact loopOk_some (by kernel_rfl) (ref01_Add_19_0_ok _ loopNo_ok)
  | n + 2, hi => omega
theorem ref01_Add_S_ok (R : Type) (other : Yard.Spec R) (ho : Yard.Spec.Ok Tryd.prog 38 other) : Yard.Spec.Ok Tryd.prog 38 (specBy ref01_Add_p ref01_Add_q (ref01_Add_rr ref01_Add) other) :=
  specBy_ok ho (funK_sound TT mixed (ref01_Add_EOk R) (keep := false) rfl rfl rfl rfl 0 (ref01_Add_loops R)) fun (x : Pat.dens ref01_Add_p) (y : HPat.dens ref01_Add_q) k => ref01_Add_ok ref01_Make ref01_Right ref01_Add_13_0_L ref01_Add_19_0_L (⟨x.1.1, x.1.2.1⟩ : Dcm) (⟨x.2.1.1, x.2.1.2.1⟩ : Dcm) k

/-! ### humpyard/humpyardref01.Int -/
abbrev ref01_Int_ty (R : Type) : Type := Dcm → (Int → Bool → Option R) → Option R
abbrev ref01_Int_p : List Pat := [.agg [.int .i64, .int .i64]]
abbrev ref01_Int_q : List HPat := []
noncomputable def ref01_Int_rr {R : Type} (fn : ref01_Int_ty R) : Pat.dens ref01_Int_p → HPat.dens ref01_Int_q → (V → Heap → Option R) → Option R := fun x y k => fn (⟨x.1.1, x.1.2.1⟩ : Dcm) (fun q0 q1 => k (.tuple [.int .i64 q0, .bool q1]) [])
abbrev ref01_Int_6_0_ty (R : Type) : Type := Nat → Int → Int → Dcm → (Int → Option R) → (Int → Bool → Int → Option R) → Option R
noncomputable def ref01_Int_E (R : Type) (ref01_Right : ref01_Right_ty R) : Env R := fun i => match i with
  | 41 => some (true, (specBy ref01_Right_p ref01_Right_q (ref01_Right_rr ref01_Right) specNo))
  | _ => none
theorem ref01_Int_EOk (R : Type) : EOk Tryd.prog (ref01_Int_E R ref01_Right) := by
  intro i b sp h
  unfold ref01_Int_E at h
  split at h
  · cases h; exact ⟨(ref01_Right_S_ok R _ (specNo_ok _)), fun h => nomatch h⟩
  · cases h

noncomputable def ref01_Int_6_0_B {R : Type} (rec' : Int → Int → Dcm → Option R) (x4 : Int) (x5 : Int) (x6 : Dcm) (e0 : Int → Option R) (e1 : Int → Bool → Int → Option R) : Option R :=
  bif (decide (x5 < x6.exp)) then (bif (decide (x4 > (100000000000000000 : Int))) then (e1 0 false x4) else (bif (decide (x4 < (-100000000000000000 : Int))) then (e1 0 false x4) else (rec' (IntKind.i64.wrap (10 * x4)) (IntKind.i64.wrap (x5 + 1)) x6))) else (e0 x4)
noncomputable def ref01_Int_6_0_L {R : Type} : ref01_Int_6_0_ty R
  | 0, _, _, _, _, _ => none
  | n + 1, x0', x1', x2', e0, e1 => ref01_Int_6_0_B (fun x0' x1' x2' => ref01_Int_6_0_L n x0' x1' x2' e0 e1) x0' x1' x2' e0 e1
noncomputable def ref01_Int_6_0_h : Hint := { live := [1, 5, 6], own := [], rows := [], cells := [], drop := [], out := [2, 3, 5] }
abbrev ref01_Int_6_0_D : Type := Int × Int × Dcm
noncomputable def ref01_Int_6_0_enc : ref01_Int_6_0_D → St := fun d => ⟨[.undef, .ptr 0 0, .undef, .undef, .undef, .int .i64 d.1, .int .i64 d.2.1, .undef, .undef, .undef, .undef, .undef, .undef, .undef, .undef, .undef, .undef, .undef, .undef, .undef, .undef, .undef, .undef, .undef, .undef, .undef, .undef, .undef, .undef, .undef, .undef, .undef, .undef], [.cells [.int .i64 d.2.2.mant, .int .i64 d.2.2.exp]]⟩
noncomputable def ref01_Int_6_0_x0 {R : Type} (K : Ex → St → Option R) (q0 : Int) : Option R := K (.exit 0) ⟨[.undef, .undef, .undef, .undef, .undef, .int .i64 q0, .undef, .undef, .undef, .undef, .undef, .undef, .undef, .undef, .undef, .undef, .undef, .undef, .undef, .undef, .undef, .undef, .undef, .undef, .undef, .undef, .undef, .undef, .undef, .undef, .undef, .undef, .undef], []⟩
noncomputable def ref01_Int_6_0_x1 {R : Type} (K : Ex → St → Option R) (q0 : Int) (q1 : Bool) (q2 : Int) : Option R := K (.ret) ⟨[.undef, .undef, .int .i64 q0, .bool q1, .undef, .int .i64 q2, .undef, .undef, .undef, .undef, .undef, .undef, .undef, .undef, .undef, .undef, .undef, .undef, .undef, .undef, .undef, .undef, .undef, .undef, .undef, .undef, .undef, .undef, .undef, .undef, .undef, .undef, .undef], []⟩
noncomputable def ref01_Int_6_0_s {R : Type} (K : Ex → St → Option R) (rc : ref01_Int_6_0_D → Option R) (d : ref01_Int_6_0_D) : Option R := ref01_Int_6_0_B (fun z0 z1 z2 => rc (z0, z1, z2)) d.1 d.2.1 d.2.2 (ref01_Int_6_0_x0 K) (ref01_Int_6_0_x1 K)
noncomputable def ref01_Int_6_0_A {R : Type} (K : Ex → St → Option R) (n : Nat) (d : ref01_Int_6_0_D) : Option R := ref01_Int_6_0_L n d.1 d.2.1 d.2.2 (ref01_Int_6_0_x0 K) (ref01_Int_6_0_x1 K)
abbrev ref01_Int_6_0_p : List Pat := [.leaf (.undef), .leaf (.ptr 0 0), .leaf (.undef), .leaf (.undef), .leaf (.undef), .leaf (.int .i64), .leaf (.int .i64), .leaf (.undef), .leaf (.undef), .leaf (.undef), .leaf (.undef), .leaf (.undef), .leaf (.undef), .leaf (.undef), .leaf (.undef), .leaf (.undef), .leaf (.undef), .leaf (.undef), .leaf (.undef), .leaf (.undef), .leaf (.undef), .leaf (.undef), .leaf (.undef), .leaf (.undef), .leaf (.undef), .leaf (.undef), .leaf (.undef), .leaf (.undef), .leaf (.undef), .leaf (.undef), .leaf (.undef), .leaf (.undef), .leaf (.undef)]
abbrev ref01_Int_6_0_q : List HPat := [.cells [.int .i64, .int .i64]]
noncomputable def ref01_Int_6_0_f (x : Pat.dens ref01_Int_6_0_p) (y : HPat.dens ref01_Int_6_0_q) : Nat := (Int.natAbs x.2.2.2.2.2.1 + Int.natAbs x.2.2.2.2.2.2.1 + Dcm.fu (⟨y.1.1, y.1.2.1⟩ : Dcm) + 64)
noncomputable def ref01_Int_6_0_d (x : Pat.dens ref01_Int_6_0_p) (y : HPat.dens ref01_Int_6_0_q) : ref01_Int_6_0_D := (x.2.2.2.2.2.1, x.2.2.2.2.2.2.1, (⟨y.1.1, y.1.2.1⟩ : Dcm))
noncomputable def ref01_Int_6_0_rr {R : Type} (L : ref01_Int_6_0_ty R) : Pat.dens ref01_Int_6_0_p → HPat.dens ref01_Int_6_0_q → (Ex → St → Option R) → Option R := fun x y K => L (ref01_Int_6_0_f x y) x.2.2.2.2.2.1 x.2.2.2.2.2.2.1 (⟨y.1.1, y.1.2.1⟩ : Dcm) (ref01_Int_6_0_x0 K) (ref01_Int_6_0_x1 K)
noncomputable def ref01_Int_T (R : Type) (ref01_Int_6_0_L : ref01_Int_6_0_ty R) : Nat → Option (Hint × LSpec R) := fun i => match i with
  | 6 => some (ref01_Int_6_0_h, (loopBy ref01_Int_6_0_p ref01_Int_6_0_q (ref01_Int_6_0_rr ref01_Int_6_0_L) loopNo))
  | _ => none

theorem ref01_Int_6_0_B_ok {R : Type} (ref01_Right : ref01_Right_ty R) (ref01_Int_6_0_L : ref01_Int_6_0_ty R) (K : Ex → St → Option R) (rc : St → Option R) (d : ref01_Int_6_0_D) : roundOf tt (ref01_Int_E R ref01_Right) (ref01_Int_T R ref01_Int_6_0_L) 0 ((loopsOf (codeOf Tryd.f40)).getD 0 .skip) ref01_Int_6_0_h (ref01_Int_6_0_enc d) rc K = ref01_Int_6_0_s K (fun d => rc (ref01_Int_6_0_enc d)) d := by kernel_rfl
theorem ref01_Int_6_0_A_succ {R : Type} (K : Ex → St → Option R) (n : Nat) (d : ref01_Int_6_0_D) : ref01_Int_6_0_A K (n + 1) d = ref01_Int_6_0_s K (ref01_Int_6_0_A K n) d := by kernel_rfl
theorem ref01_Int_6_0_A_zero {R : Type} (K : Ex → St → Option R) (d : ref01_Int_6_0_D) : ref01_Int_6_0_A K 0 d = none := by kernel_rfl
theorem ref01_Int_6_0_e_ok (x : Pat.dens ref01_Int_6_0_p) (y : HPat.dens ref01_Int_6_0_q) : (⟨Pat.encL ref01_Int_6_0_p x, HPat.encL ref01_Int_6_0_q y⟩ : St) = ref01_Int_6_0_enc (ref01_Int_6_0_d x y) := by kernel_rfl
theorem ref01_Int_6_0_r_ok {R : Type} (x : Pat.dens ref01_Int_6_0_p) (y : HPat.dens ref01_Int_6_0_q) (K : Ex → St → Option R) : ref01_Int_6_0_rr (ref01_Int_6_0_L) x y K = ref01_Int_6_0_A K (ref01_Int_6_0_f x y) (ref01_Int_6_0_d x y) := by kernel_rfl
theorem ref01_Int_6_0_ok {R : Type} (other : LSpec R) (ho : LsOk tt (ref01_Int_E R ref01_Right) (ref01_Int_T R ref01_Int_6_0_L) 0 ((loopsOf (codeOf Tryd.f40)).getD 0 .skip) ref01_Int_6_0_h other) : LsOk tt (ref01_Int_E R ref01_Right) (ref01_Int_T R ref01_Int_6_0_L) 0 ((loopsOf (codeOf Tryd.f40)).getD 0 .skip) ref01_Int_6_0_h (loopBy ref01_Int_6_0_p ref01_Int_6_0_q (ref01_Int_6_0_rr (ref01_Int_6_0_L)) other) :=
  loopBy_tie (A := ref01_Int_6_0_A) ho (loop_tie ref01_Int_6_0_enc (ref01_Int_6_0_s) (ref01_Int_6_0_A) (ref01_Int_6_0_A_zero) (ref01_Int_6_0_B_ok ref01_Right ref01_Int_6_0_L) (ref01_Int_6_0_A_succ)) ref01_Int_6_0_f ref01_Int_6_0_d ref01_Int_6_0_e_ok (ref01_Int_6_0_r_ok)

noncomputable def ref01_Int_X {R : Type} (ref01_Right : ref01_Right_ty R) (ref01_Int_6_0_L : ref01_Int_6_0_ty R) (x1 : Dcm) (k0 : Int → Bool → Option R) : Option R :=
  ref01_Right x1 (fun y2 => bif (!y2) then (k0 0 false) else (bif (decide (x1.exp < (0 : Int))) then (k0 0 false) else (ref01_Int_6_0_L (Int.natAbs x1.mant + Int.natAbs 0 + Dcm.fu x1 + 64) x1.mant 0 x1 (fun y8 => k0 y8 true) (fun y9 y10 y11 => k0 y9 y10))))
noncomputable def ref01_Int {R : Type} : ref01_Int_ty R := fun x1 k0 => ref01_Int_X ref01_Right ref01_Int_6_0_L x1 k0
theorem ref01_Int_ok {R : Type} (ref01_Right : ref01_Right_ty R) (ref01_Int_6_0_L : ref01_Int_6_0_ty R) (x1 : Dcm) (k : V → Heap → Option R) : funK tt (ref01_Int_E R ref01_Right) (ref01_Int_T R ref01_Int_6_0_L) false Tryd.f40 (codeOf Tryd.f40) [.agg [.int .i64 x1.mant, .int .i64 x1.exp]] [] k =
    ref01_Int_X ref01_Right ref01_Int_6_0_L x1 (fun q0 q1 => k (.tuple [.int .i64 q0, .bool q1]) []) := by kernel_rfl
theorem ref01_Int_loops (R : Type) : ∀ a ∈ loopsOf (codeOf Tryd.f40), LoopOk tt (ref01_Int_E R ref01_Right) (ref01_Int_T R ref01_Int_6_0_L) 0 a := by
  refine loops_ok 1 (by kernel_rfl) fun i hi => ?_
  match i, hi with
  | 0, _ => exact loopOk_some (by kernel_rfl) (ref01_Int_6_0_ok _ loopNo_ok)
  | n + 1, hi => omega
theorem ref01_Int_S_ok (R : Type) (other : Yard.Spec R) (ho : Yard.Spec.Ok Tryd.prog 40 other) : Yard.Spec.Ok Tryd.prog 40 (specBy ref01_Int_p ref01_Int_q (ref01_Int_rr ref01_Int) other) :=
  specBy_ok ho (funK_sound TT mixed (ref01_Int_EOk R) (keep := false) rfl rfl rfl rfl 0 (ref01_Int_loops R)) fun (x : Pat.dens ref01_Int_p) (y : HPat.dens ref01_Int_q) k => ref01_Int_ok ref01_Right ref01_Int_6_0_L (⟨x.1.1, x.1.2.1⟩ : Dcm) k

end Go.Proofs.YtifgegmnngfckaaDoor

/-
  Functions of the program as pure Lean functions, and the ties; printed by wip/tools/emit.py.
-/
set_option maxRecDepth 100000
set_option linter.unusedVariables false
namespace Go.Proofs.YtifgegmnngfckaaDoor
open Go Go.Yard

end Go.Proofs.YtifgegmnngfckaaDoor

set_option linter.unusedVariables false
set_option maxRecDepth 100000
namespace Go.Proofs.YtifgegmnngfckaaDoor
open Go Go.Yard Go.Lib

def Fm (d : Dcm) : Prop := (d.mant = 0 ∧ d.exp = 0) ∨ (Int.tmod d.mant 10 ≠ 0 ∧ -1000000000000000 ≤ d.mant ∧ d.mant ≤ 1000000000000000 ∧ -9 ≤ d.exp ∧ d.exp ≤ 9)

theorem Fm.bounds {d : Dcm} (h : Fm d) : -1000000000000000 ≤ d.mant ∧ d.mant ≤ 1000000000000000 ∧ -9 ≤ d.exp ∧ d.exp ≤ 9 := by
  rcases h with h | h <;> omega
theorem Fm.nz {d : Dcm} (h : Fm d) (h0 : d.mant ≠ 0) : Int.tmod d.mant 10 ≠ 0 := by
  rcases h with h | h
  · exact (h0 h.1).elim
  · exact h.1
theorem Fm.zero {d : Dcm} (h : Fm d) (h0 : d.mant = 0) : d = ⟨0, 0⟩ := by
  rcases h with h | h
  · cases d; simp only at h; rw [h.1, h.2]
  · exact (h.1 (by rw [h0]; rfl)).elim
theorem Fm.mk0 : Fm ⟨0, 0⟩ := .inl ⟨rfl, rfl⟩
theorem tmod_neg {m : Int} (h : Int.tmod m 10 ≠ 0) : Int.tmod (-m) 10 ≠ 0 := by rw [Int.neg_tmod]; omega
theorem Fm.neg {d : Dcm} (h : Fm d) : Fm ⟨-d.mant, d.exp⟩ := by
  rcases h with h | h
  · exact .inl ⟨by simp only; omega, h.2⟩
  · exact .inr ⟨tmod_neg h.1, by simp only; omega, by simp only; omega, h.2.2.2⟩

theorem right_ok {R : Type} {d : Dcm} (h : Fm d) (k : Bool → Option R) : decimal_Right d k = k true := by
  rcases h with h | h
  · have e : decimal_Right d k = decimal_Right_X decimal_within_int d k := rfl
    rw [e]
    unfold decimal_Right_X
    rw [h.1, h.2]
    rfl
  · cases d; exact right_mk h.1 h.2 k

theorem fit_loop {R : Type} (x : Int) (d : Dcm) (e0 : Int → Int → Dcm → Option R) : ∀ (j n : Nat) (u : Int), j < n → Int.tmod u 10 ≠ 0 → I64 (u * 10 ^ j) →
    law01_Fit_3_0_L n (u * 10 ^ j) x d e0 = e0 u x d := by
  intro j
  induction j with
  | zero =>
    intro n u hn hu hb
    obtain ⟨m, rfl⟩ : ∃ m, n = m + 1 := ⟨n - 1, by omega⟩
    have e : law01_Fit_3_0_L (m + 1) (u * 10 ^ 0) x d e0 = law01_Fit_3_0_B (fun x0' x1' x2' => law01_Fit_3_0_L m x0' x1' x2' e0) (u * 10 ^ 0) x d e0 := rfl
    rw [e]
    unfold law01_Fit_3_0_B
    have e1 : u * 10 ^ 0 = u := by simp
    have e2 : (Int.tmod u 10 == 0) = false := by rw [beq_eq_false_iff_ne]; exact hu
    have e3 : (u != 0) = true := bne_iff_ne.2 (by rintro rfl; exact hu rfl)
    rw [e1, e3, cond_true, e2, cond_false]
  | succ j ih =>
    intro n u hn hu hb
    obtain ⟨m, rfl⟩ : ∃ m, n = m + 1 := ⟨n - 1, by omega⟩
    have e : law01_Fit_3_0_L (m + 1) (u * 10 ^ (j + 1)) x d e0 = law01_Fit_3_0_B (fun x0' x1' x2' => law01_Fit_3_0_L m x0' x1' x2' e0) (u * 10 ^ (j + 1)) x d e0 := rfl
    rw [e]
    unfold law01_Fit_3_0_B
    have ep : u * 10 ^ (j + 1) = u * 10 ^ j * 10 := by rw [Int.pow_succ, Int.mul_assoc]
    have hu0 : u ≠ 0 := by rintro rfl; exact hu rfl
    have hab := abs_le_mul u (j + 1)
    have e3 : (u * 10 ^ (j + 1) != 0) = true := bne_iff_ne.2 (by omega)
    unfold I64 at hb
    rw [e3, cond_true]
    rw [ep] at hb ⊢
    have e1 : (Int.tmod (u * 10 ^ j * 10) 10 == 0) = true := by rw [Int.mul_tmod_left]; rfl
    have e2 : Int.tdiv (u * 10 ^ j * 10) 10 = u * 10 ^ j := Int.mul_tdiv_cancel _ (by omega)
    rw [e1, cond_true, e2, wrap_id (n := u * 10 ^ j) (by omega) (by omega)]
    exact ih m u (by omega) hu (by unfold I64; omega)

theorem fit_ok {R : Type} (a b : Int) (ha : I64 a) (hb : I64 b) : ∃ d : Dcm, Fm d ∧ ∀ k : Dcm → Option R, law01_Fit a b k = k d := by
  obtain ⟨m, m0, m1, hm⟩ := pick01 (R := R) a 2000000000000001 ha (by omega) (by omega)
  obtain ⟨x, x0, x1, hx⟩ := pick01 (R := R) b 19 hb (by omega) (by omega)
  have e : ∀ k : Dcm → Option R, law01_Fit a b k = law01_Fit_X law01_pick law01_Fit_3_0_L a b k := fun _ => rfl
  by_cases h0 : m - 1000000000000000 = 0
  · refine ⟨⟨0, 0⟩, .mk0, fun k => ?_⟩
    rw [e]
    unfold law01_Fit_X
    rw [hm, hx, wrap_id (n := m - 1000000000000000) (by omega) (by omega), h0]
    rfl
  · obtain ⟨j, u, hu, hd⟩ := strip_ex ((m - 1000000000000000).natAbs + 1) _ h0 (by omega)
    have hab := abs_le_mul u j
    have hb64 : I64 (u * 10 ^ j) := by unfold I64; omega
    have h64 := noughts_64 (by rintro rfl; exact hd rfl) hb64
    refine ⟨⟨u, x - 9⟩, .inr ⟨hd, by simp only; omega, by simp only; omega, by simp only; omega, by simp only; omega⟩, fun k => ?_⟩
    rw [e]
    unfold law01_Fit_X
    rw [hm, hx, wrap_id (n := m - 1000000000000000) (by omega) (by omega), wrap_id (n := x - 9) (by omega) (by omega)]
    have key := fun (F : Nat) (hF : j < F) => fit_loop (R := R) (x - 9) ⟨0, 0⟩ (fun y9 y10 y11 => bif (y9 == 0) then (k (⟨y9, 0⟩ : Dcm)) else (k (⟨y9, y10⟩ : Dcm))) j F u hF hd hb64
    rw [← hu] at key
    rw [key _ (by omega)]
    have e0 : (u == 0) = false := by rw [beq_eq_false_iff_ne]; rintro rfl; exact hd rfl
    rw [e0]
    rfl

def shiftP : Int → Nat → Option Int
  | m, 0 => some m
  | m, j + 1 => if -100000000000000000 ≤ m ∧ m ≤ 100000000000000000 then shiftP (m * 10) j else none

theorem shiftP_val : ∀ (j : Nat) (m v : Int), shiftP m j = some v → v = m * 10 ^ j
  | 0, m, v, h => by cases h; simp
  | j + 1, m, v, h => by
    simp only [shiftP] at h
    split at h
    · rw [shiftP_val j _ _ h, Int.pow_succ, Int.mul_assoc, Int.mul_comm 10]
    · cases h
theorem shiftP_le : ∀ (j : Nat) (m v : Int), shiftP m j = some v → m.natAbs ≤ 1000000000000000000 → v.natAbs ≤ 1000000000000000000
  | 0, m, v, h, hm => by cases h; exact hm
  | j + 1, m, v, h, hm => by
    simp only [shiftP] at h
    split at h
    · exact shiftP_le j _ _ h (by omega)
    · cases h
theorem shiftP_fits : ∀ (j : Nat) (m : Int), (m * 10 ^ j).natAbs ≤ 1000000000000000000 → shiftP m j = some (m * 10 ^ j)
  | 0, m, _ => by simp [shiftP]
  | j + 1, m, h => by
    have e : m * 10 ^ (j + 1) = m * 10 * 10 ^ j := by rw [Int.pow_succ, Int.mul_assoc, Int.mul_comm 10]
    have h2 := abs_le_mul (m * 10) j
    rw [e] at h ⊢
    simp only [shiftP]
    rw [if_pos (by omega)]
    exact shiftP_fits j _ h

theorem shift_loop {R : Type} (J : Int) (hJ : J ≤ 1000) (e0 : Int → Option R) (e1 : Int → Bool → Int → Option R) : ∀ (j n i : Nat) (m : Int), j < n → (i : Int) + j = J → m.natAbs ≤ 1000000000000000000 →
    match shiftP m j with
    | some v => decimal_shifted_3_0_L n m J (i : Int) e0 e1 = e0 v
    | none => ∃ w, decimal_shifted_3_0_L n m J (i : Int) e0 e1 = e1 0 false w := by
  intro j
  induction j with
  | zero =>
    intro n i m hn hi hm
    obtain ⟨n, rfl⟩ : ∃ q, n = q + 1 := ⟨n - 1, by omega⟩
    have e : decimal_shifted_3_0_L (n + 1) m J (i : Int) e0 e1 = decimal_shifted_3_0_B decimal_within_int (fun x0' x1' x2' => decimal_shifted_3_0_L n x0' x1' x2' e0 e1) m J (i : Int) e0 e1 := rfl
    simp only [shiftP]
    rw [e]
    unfold decimal_shifted_3_0_B
    rw [dfalse (show ¬ (i : Int) < J by omega), cond_false]
  | succ j ih =>
    intro n i m hn hi hm
    obtain ⟨n, rfl⟩ : ∃ q, n = q + 1 := ⟨n - 1, by omega⟩
    have e : decimal_shifted_3_0_L (n + 1) m J (i : Int) e0 e1 = decimal_shifted_3_0_B decimal_within_int (fun x0' x1' x2' => decimal_shifted_3_0_L n x0' x1' x2' e0 e1) m J (i : Int) e0 e1 := rfl
    simp only [shiftP]
    rw [e]
    unfold decimal_shifted_3_0_B
    rw [dtrue (show (i : Int) < J by omega), cond_true, within_ok]
    by_cases h : -100000000000000000 ≤ m ∧ m ≤ 100000000000000000
    · rw [dtrue h.1, dtrue h.2, if_pos h, wrap_id (n := m * 10) (by omega) (by omega), wrap_id (n := (i : Int) + 1) (by omega) (by omega)]
      exact ih n (i + 1) (m * 10) (by omega) (by omega) (by omega)
    · rw [if_neg h]
      have : (decide (-100000000000000000 ≤ m) && decide (m ≤ 100000000000000000)) = false := by
        rw [Bool.and_eq_false_iff, decide_eq_false_iff_not, decide_eq_false_iff_not]; omega
      rw [this]
      exact ⟨m, rfl⟩

theorem shifted_ok {R : Type} {d : Dcm} (h : Fm d) {x : Int} (h1 : x ≤ d.exp) (h2 : -900 ≤ x) (k : Int → Bool → Option R) :
    decimal_shifted d x k = match shiftP d.mant (d.exp - x).toNat with | some v => k v true | none => k 0 false := by
  have hb := h.bounds
  have e : decimal_shifted d x k = decimal_shifted_X decimal_shifted_3_0_L d x k := rfl
  rw [e]
  unfold decimal_shifted_X
  rw [wrap_id (n := d.exp - x) (by omega) (by omega)]
  have key := shift_loop (R := R) (d.exp - x) (by omega) (fun y7 => k y7 true) (fun y8 y9 y10 => k y8 y9) (d.exp - x).toNat (Int.natAbs d.mant + Int.natAbs (d.exp - x) + Int.natAbs 0 + 64) 0 d.mant (by omega) (by omega) (by omega)
  cases hs : shiftP d.mant (d.exp - x).toNat with
  | some v => rw [hs] at key; exact key
  | none => rw [hs] at key; obtain ⟨w, key⟩ := key; exact key

end Go.Proofs.YtifgegmnngfckaaDoor

