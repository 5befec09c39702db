/-
  JsonDeep: for every input whose bulk is at most 1048576 the law returns true, and each argument reads behind the call as it read before; part 7 of 9 of the proof: an interpreter of the model's code over typed data, proved sound; the functions that the law reaches, printed as Lean functions and tied; the plain law. Own texts laid one behind the other.
-/
import Derived.Test.YtmlkkgfenfdndaaGreatDoorCards
import Derived.Test.YtmlkkgfenfdndaaGreatDoorTie
import Derived.Lib.LaidU8T
import Derived.Stop.LaidErr
import Derived.Deep.DeepHandedRow
import Derived.Deep.DeepWitnessRowRef
import Derived.WalkKit
import Derived.ProofKit
import Derived.OpenShut
import Derived.KernelRfl
import Derived.Lib.ValidU
import Derived.Lib.ItoaLen
import Derived.Lib.Repeat
import Derived.Lib.AtoiAll
import Derived.Lib.IndexAny
import Derived.Lib.Bytealg
import Derived.Lib.SlTrimSet
import Derived.Lib.ValidLaws
import Derived.Lib.MapLaws
import Derived.Lib.TrimUEq
import Derived.Lib.RuneBytes
import Derived.Sort.Grow
import Derived.Shelf.Strings.BuilderX
import Derived.Test.YtmlkkgfenfdndaaGreatDoorJsonDeepB6
set_option linter.unusedSimpArgs false
set_option linter.unnecessarySimpa false
set_option linter.unusedVariables false
set_option linter.unusedSectionVars false
set_option maxRecDepth 100000
namespace Go.Proofs.YtmlkkgfenfdndaaGreatDoor.Door
open Go Go.Lib Go.RowKit Go.ChangeShapes Go.Yard

theorem own : ownKnob Tryz.prog.godebug = none := by kernel_rfl
theorem leaves : LeavesOk Tryz.prog Go.Proofs.YtmlkkgfenfdndaaGreatDoor.tt := leaves_ok (by kernel_rfl)

theorem gSyn : Tryz.prog.globalNamed "strconv.ErrSyntax" = some 4 := by kernel_rfl
theorem gRng : Tryz.prog.globalNamed "strconv.ErrRange" = some 5 := by kernel_rfl
theorem tSyn : (Tryz.prog.globals[4]?).map (·.type) = some 94 := by kernel_rfl
theorem tRng : (Tryz.prog.globals[5]?).map (·.type) = some 94 := by kernel_rfl
theorem star : "*" ++ "errors.errorString" = "*errors.errorString" := by decide
theorem rowErr (u : TypeId) (h : Tryz.prog.typeName? 3 u = some "*errors.errorString") : u = 204 :=
  typeName_ptr_named (nm := "errors.errorString") (by rw [star]; kernel_rfl) (by kernel_rfl) (by decide) u (by rw [star]; exact h)

theorem lt_of_var {n : String} {g : Nat} {W : World} {cs : Array Value} (hg : Tryz.prog.globalNamed n = some g) (h : W.var? Tryz.prog n = some cs) : g < W.heap.size := by
  unfold World.var? at h
  simp only [hg, Option.bind_some] at h
  rcases Nat.lt_or_ge g W.heap.size with h' | h'
  · exact h'
  · simp [Array.getElem?_eq_none h'] at h

theorem lay_met {W : World} (h : laidMet Tryz.prog Rows.topTextsUptoRow.laid W) : lay0.says W ∧ ∀ b, lay0.blocks b → b < W.heap.size := by
  have r0 : VarReads Tryz.prog W "unicode/utf8.first" firstData := laidMet.reads h (.tail _ (.tail _ (.tail _ (.tail _ (.tail _ (.tail _ (.head _)))))))
  have r1 : VarReads Tryz.prog W "unicode/utf8.acceptRanges" acceptData := laidMet.reads h (.tail _ (.tail _ (.tail _ (.head _))))
  have ht : Utf8Tabs 1 2 W := utf8Tabs_of_readsT (U8Types.of196 Tryz.lay196) ⟨by kernel_rfl, by kernel_rfl, by kernel_rfl, by kernel_rfl, by kernel_rfl, by kernel_rfl, by kernel_rfl⟩ r0 r1
  have h2 := laidMet.tail (laidMet.tail h)
  have hp : TabIs Tryz.prog W "internal/strconv.uint64pow10" .u64 pow10Tab := tabIs_of_head (t := 192) (e := 165) (n := 20) lay_pow10 (by kernel_rfl) (by kernel_rfl) (by kernel_rfl) (by kernel_rfl) (by kernel_rfl) h2
  have h4 := laidMet.tail (laidMet.tail h2)
  obtain ⟨a3, s3, v3, _⟩ := laid_sentinel (ms := #[("Error", 75)]) (f := { name := "s", type := 9, offset := 0, embedded := false, tag := "", pkgPath := "errors", byteOffset := 0 }) (te := 206) (ts := 9) h4 gRng tRng (by kernel_rfl) rowErr (by kernel_rfl) (by kernel_rfl) rfl rfl (by kernel_rfl) (by kernel_rfl) (by kernel_rfl)
  obtain ⟨a2, s2, v2, _⟩ := laid_sentinel (ms := #[("Error", 75)]) (f := { name := "s", type := 9, offset := 0, embedded := false, tag := "", pkgPath := "errors", byteOffset := 0 }) (te := 206) (ts := 9) (laidMet.tail h4) gSyn tSyn (by kernel_rfl) rowErr (by kernel_rfl) (by kernel_rfl) rfl rfl (by kernel_rfl) (by kernel_rfl) (by kernel_rfl)
  refine ⟨⟨ht, hp, ⟨_, _, World.var?_cell gSyn v2 0⟩, ⟨_, _, World.var?_cell gRng v3 0⟩⟩, fun b hb => ?_⟩
  have hb : b < 8 := hb
  obtain ⟨g, t, cs, fuel, p, hg, _, hv, _⟩ : VarReads Tryz.prog W "math/bits.deBruijn64tab" Rows.laid_math_bits_deBruijn64tab := laidMet.reads h (.tail _ (.head _))
  have e : (some 7 : Option Nat) = some g := (by kernel_rfl : Tryz.prog.globalNamed "math/bits.deBruijn64tab" = some 7).symm.trans hg
  cases e
  have l4 := lt_of_var hg hv
  omega

abbrev synS : ByteArray := { data := #[105, 110, 118, 97, 108, 105, 100, 32, 115, 121, 110, 116, 97, 120] }
abbrev rngS : ByteArray := { data := #[118, 97, 108, 117, 101, 32, 111, 117, 116, 32, 111, 102, 32, 114, 97, 110, 103, 101] }
noncomputable def low : Nat := (World.holding Tryz.prog default ⟨#[], #[], []⟩).heap.size
def lit1 : DataW Unit → Value
  | .lit (.int k n) => .int k n
  | _ => .int .u8 0
def litsOf : DataW Unit → List Value
  | .agg l => l.map lit1
  | _ => []
noncomputable def laidWorld (os : Os) : World :=
  let w0 := World.holding Tryz.prog os ⟨#[.cells #[.string synS] 206, .cells #[.string rngS] 206], #[], []⟩
  let put (h : Array Obj) (g : Nat) (cs : Array Value) : Array Obj := h.modify g fun
    | .cells _ t frozen => .cells cs t frozen
    | o => o
  let h0 := put w0.heap 1 (firstTab.map fun z => Value.int .u8 z).toArray
  let h1 := put h0 2 ((List.range 16).flatMap fun i => [Value.int .u8 (accLo i), Value.int .u8 (accHi i)]).toArray
  let h2 := put h1 4 #[.iface 204 (.pointer (some ⟨low, 0, none⟩))]
  let h3 := put h2 5 #[.iface 204 (.pointer (some ⟨low + 1, 0, none⟩))]
  let h4 := put h3 3 (pow10Tab.map fun z => Value.int .u64 z).toArray
  let h6 := put h4 6 (litsOf Rows.laid_math_bits_deBruijn32tab).toArray
  let h7 := put h6 7 (litsOf Rows.laid_math_bits_deBruijn64tab).toArray
  { w0 with heap := h7 }

theorem laid_met (os : Os) (args : Array Value) : laidMet Tryz.prog Rows.topTextsUptoRow.laid ((laidWorld os).forCall (fun _ _ => 0) ⟨#[], args, []⟩).memory :=
  laidMet_of_run' 8 (by kernel_rfl) (by kernel_rfl)
end Go.Proofs.YtmlkkgfenfdndaaGreatDoor.Door


set_option maxRecDepth 100000
namespace Go.Proofs.YtmlkkgfenfdndaaGreatDoor
open Go Go.Yard
end Go.Proofs.YtmlkkgfenfdndaaGreatDoor

namespace Go.Yard
open Go.RowKit

section
variable {P : Program} {tt : TTab} {w w' : World} {h h' : Heap} {c c' : Cfg} {R : Type}

theorem below_ext (hb : Below w.heap.size w w') : Ext w h c w' h c where
  os := hb.os
  tape := hb.tape
  output := hb.output
  size := hb.size
  used := fun _ hi => hi
  same := fun i hi hd => ⟨sim_refl (live_of hi.2 hd) (fun _ _ _ => .inr trivial), rfl, rfl⟩
  cell := fun b x hx _ => blocks_cell (hb.block b hx)
  block := fun b hx _ => hb.block b hx
  owns := fun _ _ _ ho => ho
  ext := rfl
  arr := fun b arr e fz hx => ⟨arr, fz, by rw [hb.block b (lt_heap hx)]; exact hx, rfl⟩

theorem below_wf (wf : WF w h c) (hb : Below w.heap.size w w') : WF w' h c where
  disj := wf.disj
  extlt := fun b x he => Nat.lt_of_lt_of_le (wf.extlt b x he) hb.size
  obj := fun i hi => by
    by_cases hl : (h.at i).live
    · exact (wf.obj i hi).keep (below_ext hb) (fun b hb' => hb.block b ((wf.obj i hi).lt hl hb')) rfl rfl
    · have h0 : h.at i = .free ∨ h.at i = .dead := by revert hl; cases h.at i <;> simp [AObj.live]
      rcases h0 with h0 | h0 <;> rw [h0] <;> trivial
  inj := wf.inj
  lay := wf.lay_ext (below_ext hb)

theorem callsTo_of {g : Nat} {fn : Func} (hf : P.funcs[g]? = some fn) (hn : (fn.name == "runtime.NumGoroutine") = false) (hb : fn.body.isNone = false) {args : Array Value} {Q : Value → World → Prop}
    (h : Calls P g args w fun e w' => ∃ d, e = .returned d ∧ Q d w') : CallsTo P g args w Q := by
  refine ⟨.enter g args, w, ?_, h⟩
  have hn' : fn.name ≠ "runtime.NumGoroutine" := by simpa using hn
  have hb' : fn.body ≠ none := fun e => by rw [e] at hb; cases hb
  simp [callFunc, hf, hn', hb']

theorem hand_plain {g : Nat} {fn : Func} (hf : P.funcs[g]? = some fn) (hn : (fn.name == "runtime.NumGoroutine") = false) (hb : fn.body.isNone = false) {sp : Spec R}
    (hs : ∀ vs hp k r, sp vs hp k = some r → ∀ (w : World) (c : Cfg) (args : Array Value), WF w hp c → RepL w hp c vs args.toList →
      ∃ v, k v hp = some r ∧ Calls P g args w fun e w' => ∃ d, e = .returned d ∧ Below w.heap.size w w' ∧ Rep w' hp c v d) : Spec.Ok P g sp := by
  intro vs hp k r hk w c args wf ra
  obtain ⟨v, hv, hc⟩ := hs vs hp k r hk w c args wf ra
  refine callsTo_of hf hn hb (Calls.mono hc ?_)
  rintro e w' ⟨d, he, hbl, hr⟩
  exact ⟨d, he, v, hp, c, below_wf wf hbl, below_ext hbl, hr, hv⟩

theorem repL1 {v : V} {args : Array Value} (ra : RepL w h c [v] args.toList) : ∃ d, args = #[d] ∧ Rep w h c v d := by
  obtain ⟨l⟩ := args
  match l, ra with
  | [d], ra => exact ⟨d, rfl, ra.head⟩
  | [], ra => have := ra.1; simp at this
  | _ :: _ :: _, ra => have := ra.1; simp at this
theorem repL2 {u v : V} {args : Array Value} (ra : RepL w h c [u, v] args.toList) : ∃ d e, args = #[d, e] ∧ Rep w h c u d ∧ Rep w h c v e := by
  obtain ⟨l⟩ := args
  match l, ra with
  | [d, e], ra => exact ⟨d, e, rfl, ra.head, ra.tail.head⟩
  | [], ra => have := ra.1; simp at this
  | [_], ra => have := ra.1; simp at this
  | _ :: _ :: _ :: _, ra => have := ra.1; simp at this
end
end Go.Yard

namespace Go.Yard
open Go.RowKit

section
variable {P : Program} {tt : TTab} {w w' : World} {h h' : Heap} {c c' : Cfg} {R : Type}

def bcc_S (R : Type) : Spec R := fun vs h k =>
  match vs with
  | [.ptr i 0] => (match h.at i with | .bld _ => k (.tuple []) h | _ => none)
  | _ => none

theorem bld_place {i : Nat} {v : V} {a' : Value} (wf : WF w h c) (ra : Rep w h c (.ptr i 0) a') (hv : h.at i = .bld v) :
    ∃ b p d, a' = .pointer (some ⟨b, 0, none⟩) ∧ c.blk i = some b ∧ w.heap[b]? = some (Obj.cells #[p, d] lay0.bld (0, 0)) ∧ (p = .pointer none ∨ p = .pointer (some ⟨b, 0, none⟩)) ∧ Rep w h c v d := by
  have hi := Heap.at_live hv (by simp)
  have ho := wf.obj i hi
  rw [hv] at ho
  obtain ⟨b, p, d, g1, g2, g3, g4⟩ := ho
  cases ra with
  | ptr hu hq =>
    obtain ⟨b', rfl, hb'⟩ := hq
    have := hb' (by rw [hv]; simp)
    rw [g1] at this; cases this
    exact ⟨b, p, d, rfl, g1, g2, g3, g4⟩

theorem bcc_ok {g : Nat} {fn : Func} (hf : P.funcs[g]? = some fn) (hn : (fn.name == "runtime.NumGoroutine") = false) (hb : fn.body.isNone = false)
    (fresh : ∀ (b : Nat) (w : World), w.cell? ⟨b, 0, none⟩ = some (.pointer none) → w.shape? b = some (lay0.bld, 2) → w.frozen? ⟨b, 0, none⟩ = false →
      Calls P g #[.pointer (some ⟨b, 0, none⟩)] w fun e w' => e = .returned (.tuple #[]) ∧ w' = w.setCell ⟨b, 0, none⟩ (.pointer (some ⟨b, 0, none⟩)))
    (used : ∀ (b : Nat) (w : World), w.cell? ⟨b, 0, none⟩ = some (.pointer (some ⟨b, 0, none⟩)) → Calls P g #[.pointer (some ⟨b, 0, none⟩)] w fun e w' => e = .returned (.tuple #[]) ∧ w' = w) : Spec.Ok P g (bcc_S R) := by
  intro vs h k r hk w c args wf ra
  unfold bcc_S at hk
  split at hk <;> try (first | cases hk)
  rename_i i
  split at hk <;> try (first | cases hk)
  rename_i v hv
  obtain ⟨a', rfl, r1⟩ := repL1 ra
  obtain ⟨b, p, d, rfl, g1, g2, g3, g4⟩ := bld_place wf r1 hv
  have hc0 : w.cell? ⟨b, 0, none⟩ = some p := by rw [cell_of_row w b _ _ _ _ g2]; rfl
  have rt : ∀ w' h' c', Rep w' h' c' (.tuple []) (.tuple #[]) := fun w' h' c' => .tuple rfl (fun j v d hv => by simp at hv)
  rcases g3 with rfl | rfl
  · refine callsTo_of hf hn hb (Calls.mono (fresh b w hc0 (by simp [World.shape?, g2]) (frozen_none g2 0)) ?_)
    rintro e w' ⟨he, rfl⟩
    have hb' : (w.setCell ⟨b, 0, none⟩ (.pointer (some ⟨b, 0, none⟩))).heap[b]? = some (.cells #[.pointer (some ⟨b, 0, none⟩), d] lay0.bld (0, 0)) := by
      simp [World.setCell, Array.getElem?_modify, g2]
    have hw : Wrote w (w.setCell ⟨b, 0, none⟩ (.pointer (some ⟨b, 0, none⟩))) b #[.pointer (some ⟨b, 0, none⟩), d] lay0.bld (0, 0) := ⟨rfl, rfl, rfl, by simp, fun k hk => heap_setCell_other w _ k _ hk, hb'⟩
    have hfrom : (h.at i).from_ (c.off i) = some 0 := by rw [hv]; rfl
    have hsim : (h.at i).sim (.bld v) := by rw [hv]; trivial
    have hset : h.set i (.bld v) = h := by
      have hi := Heap.at_live hv (by simp)
      have e : h[i] = .bld v := by
        have := hv
        unfold Heap.at at this
        simpa [List.getD, List.getElem?_eq_getElem hi] using this
      rw [← e]
      exact List.set_getElem_self hi
    have x := upd_ext g1 g2 hw rfl hfrom rfl hsim
    have q := upd_wf wf g1 g2 hw rfl hfrom rfl hsim ⟨b, _, d, g1, hb', .inr rfl, g4.mono x⟩
    rw [hset] at x q
    exact ⟨_, he, _, h, c, q, x, rt _ _ _, hk⟩
  · refine callsTo_of hf hn hb (Calls.mono (used b w hc0) ?_)
    rintro e w' ⟨he, rfl⟩
    exact ⟨_, he, _, h, c, wf, .refl _ _ _, rt _ _ _, hk⟩

def bstr (l : List Int) : Str := l.map fun n => UInt8.ofNat n.toNat

theorem bstr_len (l : List Int) : (bstr l).length = l.length := List.length_map _
theorem bstr_get (l : List Int) (m : Nat) (x : UInt8) (h : (bstr l)[m]? = some x) : ∃ n, l[m]? = some n ∧ x = UInt8.ofNat n.toNat := by
  unfold bstr at h
  rw [List.getElem?_map] at h
  cases hm : l[m]? with
  | none => rw [hm] at h; cases h
  | some n => rw [hm] at h; simp at h; exact ⟨n, rfl, h.symm⟩

def bstr_S (R : Type) : Spec R := fun vs h k =>
  match vs with
  | [.ptr i 0] =>
    (match h.at i with
     | .bld .nilsl => k (.str []) h
     | .bld (.sl (.int .u8) l (.own j)) => (match h.at j with | .tok => k (.str (bstr l)) h | _ => none)
     | _ => none)
  | _ => none

theorem bstr_soft : SoftSpec (bstr_S R) := by
  intro vs h k k' he
  unfold bstr_S
  split <;> try rfl
  split <;> try (first | rfl | exact he _)
  split <;> first | rfl | exact he _

theorem freeze_wf (wf : WF w h c) {j g : Nat} (hj : h.at j = .tok) (hg : c.blk j = some g) {cur : Array Value} {e : TypeId} {fz fz' : Nat × Nat} (h1 : w.heap[g]? = some (.cells cur e fz))
    (hos : w'.os = w.os) (htape : w'.tape = w.tape) (hout : w'.output = w.output) (hsize : w'.heap.size = w.heap.size) (hoth : ∀ k, k ≠ g → w'.heap[k]? = w.heap[k]?) (h2 : w'.heap[g]? = some (.cells cur e fz'))
    (hfz : (fz.1 = fz.2 ∨ fz.2 ≤ c.off j) → (fz'.1 = fz'.2 ∨ fz'.2 ≤ c.off j)) :
    WF w' h c ∧ Ext w h c w' h c := by
  have hjl := Heap.at_live hj (by simp)
  have hown : Owns h c g (c.off j) := ⟨j, c.off j, hg, by rw [hj]; rfl, Nat.le_refl _⟩
  have hcell : ∀ b x, w'.cell? ⟨b, x, none⟩ = w.cell? ⟨b, x, none⟩ := fun b x => by
    by_cases hb : b = g
    · subst hb; rw [cell_of_row w' b x cur e fz' h2, cell_of_row w b x cur e fz h1]
    · exact blocks_cell (hoth b hb)
  have x : Ext w h c w' h c := {
    os := hos
    tape := htape
    output := hout
    size := by omega
    used := (Ext.refl w h c).used
    same := (Ext.refl w h c).same
    cell := fun b x _ _ => hcell b x
    block := fun b _ ho => hoth b (by rintro rfl; exact ho _ hown)
    owns := (Ext.refl w h c).owns
    ext := rfl
    arr := fun b arr el fz0 hb => by
      by_cases hbg : b = g
      · subst hbg; rw [h1] at hb; cases hb; exact ⟨cur, fz', h2, rfl⟩
      · exact ⟨arr, fz0, by rw [hoth b hbg]; exact hb, rfl⟩ }
  refine ⟨?_, x⟩
  exact {
    lay := wf.lay_ext x
    disj := wf.disj
    extlt := fun b y he => by rw [hsize]; exact wf.extlt b y he
    obj := fun i hi => by
      by_cases hij : i = j
      · subst hij
        have := wf.obj i hi
        rw [hj] at this ⊢
        rcases this with h0 | ⟨b', arr', e', fz0, p1, p2, p3, p4⟩
        · rw [hg] at h0; cases h0
        · rw [hg] at p1; cases p1
          rw [h1] at p2; cases p2
          exact .inr ⟨g, cur, e, fz', hg, h2, p3, hfz p4⟩
      · by_cases hl : (h.at i).live
        · refine (wf.obj i hi).keep x (fun b hb => hoth b ?_) rfl rfl
          rintro rfl
          exact hij (wf.inj i j b hl (by rw [hj]; trivial) hb hg)
        · have h0 : h.at i = .free ∨ h.at i = .dead := by revert hl; cases h.at i <;> simp [AObj.live]
          rcases h0 with h0 | h0 <;> rw [h0] <;> trivial
    inj := wf.inj }

theorem freeze_facts {q n : Nat} {cur : Array Value} {e : TypeId} {fz : Nat × Nat} (hn : n ≠ 0) (hq : w.heap[q]? = some (.cells cur e fz)) :
    (w.drew.freeze ⟨q, 0, none⟩ n).os = w.os ∧ (w.drew.freeze ⟨q, 0, none⟩ n).tape = w.tape ∧ (w.drew.freeze ⟨q, 0, none⟩ n).output = w.output ∧ (w.drew.freeze ⟨q, 0, none⟩ n).heap.size = w.heap.size ∧
      (∀ k, k ≠ q → (w.drew.freeze ⟨q, 0, none⟩ n).heap[k]? = w.heap[k]?) ∧ ∃ fz', (w.drew.freeze ⟨q, 0, none⟩ n).heap[q]? = some (.cells cur e fz') ∧ ∀ o, n ≤ o → (fz.1 = fz.2 ∨ fz.2 ≤ o) → (fz'.1 = fz'.2 ∨ fz'.2 ≤ o) := by
  obtain ⟨lo, hi⟩ := fz
  unfold World.freeze
  rw [if_neg hn]
  refine ⟨rfl, rfl, rfl, Array.size_modify, fun k hk => ?_, (if lo == hi then (0, 0 + n) else (min lo 0, max hi (0 + n))), ?_, fun o ho hf => ?_⟩
  · simp only [Array.getElem?_modify]
    rw [if_neg (Ne.symm hk)]
    rfl
  · simp only [Array.getElem?_modify, if_true]
    rw [show w.drew.heap[q]? = some (.cells cur e (lo, hi)) from hq]
    rfl
  · simp only at hf
    split
    · exact .inr (by simp; omega)
    · rename_i hne
      have : lo ≠ hi := by simpa using hne
      exact .inr (by simp; omega)

theorem u8_of {n : Int} (hn : IntKind.u8.has n) : ((UInt8.ofNat n.toNat).toNat : Int) = n := by
  have : 0 ≤ n ∧ n ≤ 255 := by simpa [IntKind.has, IntKind.min, IntKind.max, IntKind.signed, IntKind.bits] using hn
  simp only [UInt8.toNat_ofNat']
  omega

structure StringDoes (P : Program) (g : Nat) : Prop where
  nil : ∀ (b : Nat) (p : Value) (w : World), w.heap[b]? = some (.cells #[p, .slice none 0 0] lay0.bld (0, 0)) →
    Calls P g #[.pointer (some ⟨b, 0, none⟩)] w fun e w' => e = .returned (.string ⟨#[]⟩) ∧ Below w.heap.size w w'
  noroom : ∀ (b q : Nat) (p : Value) (cur : Array Value) (fz : Nat × Nat) (w : World), w.heap[b]? = some (.cells #[p, .slice (some ⟨q, 0, none⟩) 0 0] lay0.bld (0, 0)) → w.heap[q]? = some (.cells cur lay0.u8 fz) →
    Calls P g #[.pointer (some ⟨b, 0, none⟩)] w fun e w' => e = .returned (.string ⟨#[]⟩) ∧ Below w.heap.size w w'
  room : ∀ (b q cap : Nat) (p : Value) (w : World), cap ≠ 0 → w.heap[b]? = some (.cells #[p, .slice (some ⟨q, 0, none⟩) 0 cap] lay0.bld (0, 0)) →
    Calls P g #[.pointer (some ⟨b, 0, none⟩)] w fun e w' => e = .returned (.string ⟨#[]⟩) ∧ Below w.heap.size w w'
  some : ∀ (b q cap : Nat) (p : Value) (cur : Array Value) (fz : Nat × Nat) (l : List UInt8) (w : World), l ≠ [] → w.heap[b]? = some (.cells #[p, .slice (some ⟨q, 0, none⟩) l.length cap] lay0.bld (0, 0)) →
    w.heap[q]? = some (.cells cur lay0.u8 fz) → l.length ≤ cap → cap ≤ mx → l.length ≤ cur.size → (∀ (j : Nat) (x : UInt8), l[j]? = some x → w.cell? ⟨q, j, none⟩ = some (.int .u8 x.toNat)) →
    Calls P g #[.pointer (some ⟨b, 0, none⟩)] w fun e w' => e = .returned (.string ⟨l.toArray⟩) ∧ w' = w.drew.freeze ⟨q, 0, none⟩ l.length

theorem bstr_ok {g : Nat} {fn : Func} (hf : P.funcs[g]? = some fn) (hn : (fn.name == "runtime.NumGoroutine") = false) (hb : fn.body.isNone = false) (D : StringDoes P g) : Spec.Ok P g (bstr_S R) := by
  intro vs h k r hk w c args wf ra
  unfold bstr_S at hk
  split at hk <;> try (first | cases hk)
  rename_i i
  obtain ⟨a', rfl, r1⟩ := repL1 ra
  have empty : ∀ {w' : World} {h' : Heap} {c' : Cfg}, Rep w' h' c' (.str []) (.string ⟨#[]⟩) := fun {w' h' c'} => rep_str ⟨#[]⟩ rfl (Nat.zero_le _)
  split at hk <;> try (first | cases hk)
  · rename_i hv
    obtain ⟨b, p, d, rfl, g1, g2, g3, g4⟩ := bld_place wf r1 hv
    cases g4
    refine callsTo_of hf hn hb (Calls.mono (D.nil b p w g2) ?_)
    rintro e w' ⟨he, hbl⟩
    exact ⟨_, he, _, h, c, below_wf wf hbl, below_ext hbl, empty, hk⟩
  · rename_i l j hv
    split at hk <;> try (first | cases hk)
    rename_i hj
    obtain ⟨b, p, d, rfl, g1, g2, g3, g4⟩ := bld_place wf r1 hv
    have hi := Heap.at_live hv (by simp)
    have hij : j ≠ i := by rintro rfl; rw [hj] at hv; cases hv
    have hu8 : ∀ x ∈ (l : List Int), IntKind.u8.has x := by
      intro x hx
      cases g4 with
      | sl f hcap hmx hc hr hnil hown =>
        obtain ⟨m, hm⟩ := List.mem_iff_getElem?.1 hx
        exact (hr m 0 x (.int .u8 x) hm rfl).int_inv.2
    have hlen : (bstr l).length = List.length (α := Int) l := bstr_len l
    cases g4 with
    | @sl _ _ _ A cap f hcap hmx hc hr hnil hown =>
      obtain ⟨_, ho⟩ := hown j rfl
      have hcap' : List.length (α := Int) l ≤ cap := hcap
      have hrep : ∀ (w' : World) (h' : Heap) (c' : Cfg), Rep w' h' c' (.str (bstr l)) (.string ⟨(bstr l).toArray⟩) := fun w' h' c' => rep_str _ rfl (by rw [hlen]; exact Nat.le_trans hcap hmx)
      rcases ho hj with ⟨e1, rfl, rfl⟩ | ⟨q, o, cur, e, fz, e1, rfl, e3, e4, e5, e6⟩
      · have hl0 : l = [] := List.eq_nil_of_length_eq_zero (Nat.le_zero.1 hcap)
        subst hl0
        refine callsTo_of hf hn hb (Calls.mono (D.nil b p w g2) ?_)
        rintro e w' ⟨he, hbl⟩
        exact ⟨_, he, _, h, c, below_wf wf hbl, below_ext hbl, hrep _ _ _, hk⟩
      · obtain ⟨rfl, rfl⟩ := e6 rfl
        by_cases hl0 : l = []
        · subst hl0
          by_cases hc0 : cap = 0
          · subst hc0
            refine callsTo_of hf hn hb (Calls.mono (D.noroom b q p cur fz w g2 e4) ?_)
            rintro e w' ⟨he, hbl⟩
            exact ⟨_, he, _, h, c, below_wf wf hbl, below_ext hbl, hrep _ _ _, hk⟩
          · refine callsTo_of hf hn hb (Calls.mono (D.room b q cap p w hc0 g2) ?_)
            rintro e w' ⟨he, hbl⟩
            exact ⟨_, he, _, h, c, below_wf wf hbl, below_ext hbl, hrep _ _ _, hk⟩
        · have hbl : bstr l ≠ [] := fun e => hl0 (List.eq_nil_of_length_eq_zero (hlen.symm.trans (by rw [e]; rfl)))
          have e5' : 0 + cap * 1 ≤ cur.size := e5
          have hcells : ∀ (m : Nat) (x : UInt8), (bstr l)[m]? = some x → w.cell? ⟨q, m, none⟩ = some (.int .u8 x.toNat) := by
            intro m x hx
            obtain ⟨n, hm, rfl⟩ := bstr_get l m x hx
            have hml : m < List.length (α := Int) l := (List.getElem?_eq_some_iff.1 hm).1
            obtain ⟨b', o', hA, hcell, _⟩ := hc m 0 hml (by simp [Ty.sz])
            cases hA
            have hrn := hr m 0 n (.int .u8 n) hm rfl
            rw [hrn.int_inv.1] at hcell
            rw [u8_of hrn.int_inv.2]
            simpa [Ty.sz] using hcell
          have g2' : w.heap[b]? = some (.cells #[p, .slice (some ⟨q, 0, none⟩) (bstr l).length cap] lay0.bld (0, 0)) := by rw [hlen]; exact g2
          refine callsTo_of hf hn hb (Calls.mono (D.some b q cap p cur fz (bstr l) w hbl g2' e4 (by rw [hlen]; exact hcap) hmx (by rw [hlen]; omega) hcells) ?_)
          rintro e w' ⟨he, rfl⟩
          have hne0 : (bstr l).length ≠ 0 := by simpa using hbl
          obtain ⟨f1, f2, f3, f4, f5, fz', f6, f7⟩ := freeze_facts hne0 e4
          obtain ⟨q1, q2⟩ := freeze_wf wf hj e1 e4 f1 f2 f3 f4 f5 f6 (f7 _ (by rw [e3, hlen]; simp [Ty.sz]; exact Nat.le_refl _))
          exact ⟨_, he, _, h, c, q1, q2, hrep _ _ _, hk⟩
end
end Go.Yard

namespace Go.Yard
open Go.RowKit

def isAsc (s : Str) : Bool := s.all fun b => decide (b.toNat < 128)
def validS (s : Str) : Bool := Go.Lib.validD s
def decRune (s : Str) : Nat × Nat := if s.isEmpty then (65533, 0) else Utf8.decode ⟨s.toArray⟩ 0
def itoaS (n : Int) : Str := Go.Lib.itoa n
def repS (s : Str) (n : Int) : Str := Go.Lib.repeatL s n.toNat
def trimL (s cs : Str) : Str := s.dropWhile (cs.contains ·)
def trimR (s cs : Str) : Str := (s.reverse.dropWhile (cs.contains ·)).reverse
def atoiOk (s : Str) : Bool := match Go.Lib.atoiAll s with | .ok _ => true | _ => false
def atoiVal (s : Str) : Int := match Go.Lib.atoiAll s with | .ok v => v | .range => Go.Lib.atoiSat s | _ => 0
def hasAny (s cs : Str) : Bool := Go.Lib.containsAny s cs
def idxByte (s : Str) (c : Int) : Int := Go.Lib.indexByte s c.toNat.toUInt8

section
variable (R : Type)
def valid_S : Spec R := fun vs h k => match vs with | [.str s] => k (.bool (validS s)) h | _ => none
def dec_S : Spec R := fun vs h k => match vs with | [.str s] => k (.tuple [.int .i32 (decRune s).1, .int .i64 (decRune s).2]) h | _ => none
def itoa_S : Spec R := fun vs h k => match vs with | [.int .i64 n] => k (.str (itoaS n)) h | _ => none
def rep_S : Spec R := fun vs h k => match vs with | [.str s, .int .i64 n] => chk (decide (0 ≤ n) && decide ((s.length : Int) * n ≤ 140737488355328)) (k (.str (repS s n)) h) | _ => none
def trimL_S : Spec R := fun vs h k => match vs with | [.str s, .str cs] => chk (isAsc cs && decide (cs.length < 4294967281)) (k (.str (trimL s cs)) h) | _ => none
def trimR_S : Spec R := fun vs h k => match vs with | [.str s, .str cs] => chk (isAsc cs && decide (cs.length < 4294967281)) (k (.str (trimR s cs)) h) | _ => none
def atoi_S : Spec R := fun vs h k => match vs with
  | [.str s] => chk (decide (s.length ≤ 281474976710656)) (bif atoiOk s then k (.tuple [.int .i64 (atoiVal s), .niliface]) h else k (.tuple [.int .i64 (atoiVal s), .iface]) h)
  | _ => none
def toErr_S (T : Nat) : Spec R := fun vs h k => match vs with
  | [.str _, .str s, .int .i64 _, .int .i64 _, .ifi t .i64 n] => chk (Nat.beq t T && (n == 2 || n == 1)) (chk (decide (s.length ≤ 281474976710656)) (k .iface h))
  | _ => none
def hasAny_S : Spec R := fun vs h k => match vs with
  | [.str s, .str cs] => chk (isAsc s && isAsc cs && decide (s.length < 4294967281) && decide (cs.length < 4294967281)) (k (.bool (hasAny s cs)) h)
  | _ => none
def idx_S : Spec R := fun vs h k => match vs with | [.str s, .int .u8 c] => k (.int .i64 (idxByte s c)) h | _ => none
end

section
variable {P : Program} {w w' : World} {h : Heap} {c : Cfg} {R : Type}
open Go.Lib

theorem asc_get {s : Str} (hs : isAsc s = true) : ∀ (j : Nat) (b : UInt8), s[j]? = some b → b.toNat < 128 := by
  intro j b hb
  have := List.all_eq_true.1 hs b (List.mem_of_getElem? hb)
  simpa using this

theorem drop_le (p : UInt8 → Bool) : ∀ s : Str, (s.dropWhile p).length ≤ s.length
  | [] => Nat.le_refl _
  | b :: s => by
    rw [List.dropWhile_cons]
    split
    · have := drop_le p s; simp; omega
    · exact Nat.le_refl _

theorem str_of (l : Str) (h' : l.length ≤ mx) : Rep w h c (.str l) (.string ⟨l.toArray⟩) := rep_str _ rfl h'

theorem ret_mono {g : Nat} {args : Array Value} {Q : Ending → World → Prop} {v : V} (hc : Calls P g args w Q)
    (hq : ∀ e w', Q e w' → ∃ d, e = .returned d ∧ Below w.heap.size w w' ∧ Rep w' h c v d) : Calls P g args w fun e w' => ∃ d, e = .returned d ∧ Below w.heap.size w w' ∧ Rep w' h c v d := Calls.mono hc fun e w' q => hq e w' q

end
end Go.Yard

set_option maxRecDepth 100000
namespace Go.Yard
open Go.Lib

def vr (c : Nat) : Prop := c < 55296 ∨ (57344 ≤ c ∧ c ≤ 1114111)
instance (c : Nat) : Decidable (vr c) := inferInstanceAs (Decidable (_ ∨ _))

def enc (c : Nat) : Str := encodeRune (c : Int)

def good (l : Str) : Prop := ¬ ((decodeL l).1 = 65533 ∧ (decodeL l).2 = 1)
instance (l : Str) : Decidable (good l) := inferInstanceAs (Decidable (¬ _))

def encL (rs : List Nat) : Str := rs.flatMap enc

end Go.Yard

namespace Go.Yard

theorem chk_pos {R : Type} {b : Bool} {k : Option R} (h : b = true) : chk b k = k := by subst h; rfl

theorem wrap_id {n : Int} (h1 : -9223372036854775808 ≤ n) (h2 : n ≤ 9223372036854775807) : IntKind.i64.wrap n = n := by
  simp only [IntKind.wrap, IntKind.bits, IntKind.signed, IntKind.min, IntKind.max]
  simp
  omega

end Go.Yard

set_option maxRecDepth 100000
set_option linter.unusedVariables false
namespace Go.Proofs.YtmlkkgfenfdndaaGreatDoor
open Go Go.Yard Go.RowKit Go.Shelf

section
variable {w w' : World} {h : Heap} {c : Cfg} {R : Type}

theorem below_drewN : ∀ (q : Nat) (a : World), Below w.heap.size w a → Below w.heap.size w (a.drewN q)
  | 0, _, ha => ha
  | q + 1, a, ha => (below_drewN q a ha).drew

theorem below_push (a : World) (os : Array Obj) (ha : Below w.heap.size w a) : Below w.heap.size w { a with heap := a.heap ++ os } :=
  ⟨ha.os, ha.tape, ha.output, by simp; have := ha.size; omega, fun k hk => by
    have := ha.size
    rw [← ha.block k hk]
    exact Array.getElem?_append_left (by omega)⟩

theorem below_bytes (e : TypeId) (t : ByteArray) : Below w.heap.size w (Go.Lib.bytesWorld w e t) := by
  unfold Go.Lib.bytesWorld World.freeze
  have hb : Below w.heap.size w (w.drew.alloc (.cells (Go.Lib.bytesCells w e t) e)) := below_drew_alloc w _
  split
  · exact hb
  · refine ⟨hb.os, hb.tape, hb.output, ?_, fun k hk => ?_⟩
    · have := hb.size; simpa using this
    · rw [← hb.block k hk]
      simp only [Array.getElem?_modify]
      rw [if_neg (by show ¬ w.heap.size = k; omega)]

theorem trimL_le (s cs : Str) : (trimL s cs).length ≤ s.length := drop_le _ s
theorem trimR_le (s cs : Str) : (trimR s cs).length ≤ s.length := by
  unfold trimR
  rw [List.length_reverse]
  exact Nat.le_trans (drop_le _ _) (by simp)
theorem trimL_nil (s : Str) : trimL s [] = s := by
  unfold trimL
  cases s with
  | nil => rfl
  | cons b s => simp
theorem trimR_nil (s : Str) : trimR s [] = s := by
  unfold trimR
  have : (s.reverse.dropWhile fun x => List.contains [] x) = s.reverse := by
    cases s.reverse with
    | nil => rfl
    | cons b s => simp
  rw [this, List.reverse_reverse]
theorem trimL_one (s : Str) (b : UInt8) : trimL s [b] = Go.Lib.trimLeftB s b := by
  unfold trimL Go.Lib.trimLeftB
  congr 1
  funext x
  rw [List.contains_cons]
  show (x == b || false) = _
  rw [Bool.or_false]
theorem trimR_one (s : Str) (b : UInt8) : trimR s [b] = Go.Lib.trimRightB s b := by
  unfold trimR Go.Lib.trimRightB
  congr 2
  funext x
  rw [List.contains_cons]
  show (x == b || false) = _
  rw [Bool.or_false]

theorem valid_ok : Yard.Spec.Ok Tryz.prog 72 (valid_S R) := by
  refine hand_plain Tryz.func72 rfl rfl fun vs hp k r hk w c args wf ra => ?_
  unfold valid_S at hk
  split at hk <;> try (first | cases hk)
  rename_i s
  obtain ⟨a, rfl, r1⟩ := repL1 ra
  obtain ⟨t, rfl, rfl, hl⟩ := r1.str_inv
  refine ⟨_, hk, ret_mono (Any.utf8_ValidString Tryz.lay196 t w hl wf.lay.1.1) ?_⟩
  rintro e w' ⟨he, hb⟩
  exact ⟨_, he, hb, .bool _⟩

theorem dec_ok : Yard.Spec.Ok Tryz.prog 130 (dec_S R) := by
  refine hand_plain Tryz.func130 rfl rfl fun vs hp k r hk w c args wf ra => ?_
  unfold dec_S at hk
  split at hk <;> try (first | cases hk)
  rename_i s
  obtain ⟨a, rfl, r1⟩ := repL1 ra
  obtain ⟨t, rfl, rfl, hl⟩ := r1.str_inv
  have hd : Go.Lib.decodeGo t = decRune t.data.toList := by
    unfold Go.Lib.decodeGo decRune
    by_cases h0 : t.size = 0
    · have : t.data.toList = [] := List.eq_nil_of_length_eq_zero (by rw [size_data]; exact h0)
      simp [h0, this]
    · have : t.data.toList ≠ [] := fun e => h0 (by rw [← size_data, e]; rfl)
      have hm : (⟨t.data.toList.toArray⟩ : ByteArray) = t := string_ext rfl
      simp [h0, hm]
      exact fun e => absurd (show t.data.size = 0 by rw [e]; rfl) h0
  have hlt : (decRune t.data.toList).1 < 2097152 ∧ (decRune t.data.toList).2 ≤ 4 := by
    unfold decRune
    split
    · exact ⟨by omega, by omega⟩
    · exact ⟨(decode_lt _ _).1, (decode_lt _ _).2.2⟩
  refine ⟨_, hk, ret_mono (Any.utf8_DecodeRuneInString Tryz.lay197 t w wf.lay.1.1) ?_⟩
  rintro e w' ⟨he, hb⟩
  rw [hd] at he
  refine ⟨_, he, hb, .tuple rfl fun j v d hv hd => ?_⟩
  match j, hv, hd with
  | 0, hv, hd => simp at hv hd; subst hv; subst hd; exact .int (has_rune _ hlt.1)
  | 1, hv, hd => simp at hv hd; subst hv; subst hd; exact .int (has_len _ (by unfold mx; omega))
  | j + 2, hv, _ => simp at hv

theorem itoa_ok : Yard.Spec.Ok Tryz.prog 66 (itoa_S R) := by
  refine hand_plain Tryz.func66 rfl rfl fun vs hp k r hk w c args wf ra => ?_
  unfold itoa_S at hk
  split at hk <;> try (first | cases hk)
  rename_i n
  obtain ⟨a, rfl, r1⟩ := repL1 ra
  obtain ⟨rfl, hn⟩ := r1.int_inv
  have hn' : -9223372036854775808 ≤ n ∧ n ≤ 9223372036854775807 := by simpa [IntKind.has, IntKind.min, IntKind.max, IntKind.signed, IntKind.bits] using hn
  refine ⟨_, hk, ret_mono (Any.strconv_Itoa Tryz.lay171 n hn'.1 hn'.2 w wf.lay.1.2.1) ?_⟩
  rintro e w' ⟨he, q, os, rfl⟩
  refine ⟨_, he, below_push _ os (below_drewN q w (Below.refl _ _)), str_of _ ?_⟩
  have := Go.Lib.itoa_length_le n hn'.1 hn'.2
  unfold itoaS mx
  omega

theorem x72 : Builder.X72 Tryz.prog Tryz.lay105_ren := { sizeBuilder := by kernel_rfl, liesBuilder := by kernel_rfl }
theorem xBuilder : Builder.Extra Tryz.prog Tryz.lay105_ren := { x72 with t5 := Tryz.underlying5, a5 := Tryz.isAgg5, z5 := Tryz.sizeOf5, v5 := Tryz.zeroValue5, infoByte := by kernel_rfl, cellsByte := by kernel_rfl, sizeByte := by kernel_rfl, neB5 := by decide }

theorem rep_ok : Yard.Spec.Ok Tryz.prog 67 (rep_S R) := by
  refine hand_plain Tryz.func67 rfl rfl fun vs hp k r hk w c args wf ra => ?_
  unfold rep_S at hk
  split at hk <;> try (first | cases hk)
  rename_i s n
  obtain ⟨hc, hk⟩ := chk_some hk
  simp only [Bool.and_eq_true, decide_eq_true_eq] at hc
  obtain ⟨h0, hlen⟩ := hc
  obtain ⟨a, b, rfl, r1, r2⟩ := repL2 ra
  obtain ⟨t, rfl, rfl, hl⟩ := r1.str_inv
  obtain ⟨rfl, hn⟩ := r2.int_inv
  obtain ⟨m, rfl⟩ := Int.eq_ofNat_of_zero_le h0
  have hn' : (m : Int) ≤ 9223372036854775807 := by
    have : IntKind.i64.has (m : Int) := hn
    simp [IntKind.has, IntKind.min, IntKind.max, IntKind.signed, IntKind.bits] at this
    omega
  rw [size_data] at hlen
  have hlen' : t.size * m ≤ 140737488355328 := by omega
  have hrl : (Go.Lib.repeatL t.data.toList m).length ≤ 140737488355328 := by
    rw [Go.Lib.repeatL_length, size_data, Nat.mul_comm]; exact hlen'
  refine ⟨_, hk, ret_mono (Any.strings_Repeat Tryz.lay105 xBuilder t m w (by omega) hlen') ?_⟩
  rintro e w' ⟨he, hb⟩
  refine ⟨_, he, hb, ?_⟩
  have e2 : repS t.data.toList (m : Int) = Go.Lib.repeatL t.data.toList m := by unfold repS; simp
  rw [e2]
  exact str_of _ (by unfold mx; omega)

theorem trimL_ok : Yard.Spec.Ok Tryz.prog 68 (trimL_S R) := by
  refine hand_plain Tryz.func68 rfl rfl fun vs hp k r hk w c args wf ra => ?_
  unfold trimL_S at hk
  split at hk <;> try (first | cases hk)
  rename_i s cs
  obtain ⟨hc, hk⟩ := chk_some hk
  simp only [Bool.and_eq_true, decide_eq_true_eq] at hc
  obtain ⟨ha, hcl⟩ := hc
  obtain ⟨a, b, rfl, r1, r2⟩ := repL2 ra
  obtain ⟨t, rfl, rfl, hl⟩ := r1.str_inv
  obtain ⟨u, rfl, rfl, hl2⟩ := r2.str_inv
  rw [size_data] at hcl
  have hasc := asc_get ha
  have hle := trimL_le t.data.toList u.data.toList
  rw [size_data] at hle
  have fin : ∀ (l : Str), l = trimL t.data.toList u.data.toList → ∀ w' : World, Rep w' hp c (.str (trimL t.data.toList u.data.toList)) (.string ⟨l.toArray⟩) := fun l e w' => by
    rw [e]; exact str_of _ (by omega)
  by_cases h0 : t.size = 0 ∨ u.size = 0
  · refine ⟨_, hk, ret_mono (Any.strings_TrimLeft_empty Tryz.lay161 t u w h0) ?_⟩
    rintro e w' ⟨he, rfl⟩
    have e2 : (⟨t.data.toList.toArray⟩ : ByteArray) = t := string_ext rfl
    rw [← e2] at he
    refine ⟨_, he, Below.refl _ _, fin _ ?_ _⟩
    rcases h0 with h0 | h0
    · have : t.data.toList = [] := List.eq_nil_of_length_eq_zero (by rw [size_data]; exact h0)
      rw [this]; unfold trimL; simp
    · have : u.data.toList = [] := List.eq_nil_of_length_eq_zero (by rw [size_data]; exact h0)
      rw [this, trimL_nil]
  · have hu1 : u.size = 1 ∨ 2 ≤ u.size := by omega
    rcases hu1 with hu1 | hu2
    · obtain ⟨b, hb⟩ : ∃ b, u.data.toList = [b] := by
        have hul : u.data.toList.length = 1 := by rw [size_data]; exact hu1
        match hq : u.data.toList, hul with
        | [b], _ => exact ⟨b, rfl⟩
      have eu : u = ⟨#[b]⟩ := string_ext (by rw [hb])
      subst eu
      refine ⟨_, hk, ret_mono (Any.strings_TrimLeft_one Tryz.lay161 t b (hasc 0 b rfl) w) ?_⟩
      rintro e w' ⟨he, rfl⟩
      exact ⟨_, he, Below.refl _ _, fin _ (trimL_one _ _).symm _⟩
    · refine ⟨_, hk, ret_mono (Any.strings_TrimLeft_set Tryz.lay161 Tryz.zeroValue135 (by kernel_rfl) t u w hu2 (by omega) (by omega) hasc) ?_⟩
      rintro e w' ⟨he, rfl⟩
      refine ⟨_, he, ?_, fin _ rfl _⟩
      exact ((Below.refl _ _).alloc (Nat.le_refl _) _).alloc (by simp) _

theorem trimR_ok : Yard.Spec.Ok Tryz.prog 104 (trimR_S R) := by
  refine hand_plain Tryz.func104 rfl rfl fun vs hp k r hk w c args wf ra => ?_
  unfold trimR_S at hk
  split at hk <;> try (first | cases hk)
  rename_i s cs
  obtain ⟨hc, hk⟩ := chk_some hk
  simp only [Bool.and_eq_true, decide_eq_true_eq] at hc
  obtain ⟨ha, hcl⟩ := hc
  obtain ⟨a, b, rfl, r1, r2⟩ := repL2 ra
  obtain ⟨t, rfl, rfl, hl⟩ := r1.str_inv
  obtain ⟨u, rfl, rfl, hl2⟩ := r2.str_inv
  rw [size_data] at hcl
  have hasc := asc_get ha
  have hle := trimR_le t.data.toList u.data.toList
  rw [size_data] at hle
  have fin : ∀ (l : Str), l = trimR t.data.toList u.data.toList → ∀ w' : World, Rep w' hp c (.str (trimR t.data.toList u.data.toList)) (.string ⟨l.toArray⟩) := fun l e w' => by
    rw [e]; exact str_of _ (by omega)
  by_cases h0 : t.size = 0 ∨ u.size = 0
  · refine ⟨_, hk, ret_mono (Any.strings_TrimRight_empty Tryz.lay162 t u w h0) ?_⟩
    rintro e w' ⟨he, rfl⟩
    have e2 : (⟨t.data.toList.toArray⟩ : ByteArray) = t := string_ext rfl
    rw [← e2] at he
    refine ⟨_, he, Below.refl _ _, fin _ ?_ _⟩
    rcases h0 with h0 | h0
    · have : t.data.toList = [] := List.eq_nil_of_length_eq_zero (by rw [size_data]; exact h0)
      rw [this]; unfold trimR; simp
    · have : u.data.toList = [] := List.eq_nil_of_length_eq_zero (by rw [size_data]; exact h0)
      rw [this, trimR_nil]
  · have hu1 : u.size = 1 ∨ 2 ≤ u.size := by omega
    rcases hu1 with hu1 | hu2
    · obtain ⟨b, hb⟩ : ∃ b, u.data.toList = [b] := by
        have hul : u.data.toList.length = 1 := by rw [size_data]; exact hu1
        match hq : u.data.toList, hul with
        | [b], _ => exact ⟨b, rfl⟩
      have eu : u = ⟨#[b]⟩ := string_ext (by rw [hb])
      subst eu
      refine ⟨_, hk, ret_mono (Any.strings_TrimRight_one Tryz.lay162 t b (hasc 0 b rfl) w hl) ?_⟩
      rintro e w' ⟨he, rfl⟩
      exact ⟨_, he, Below.refl _ _, fin _ (trimR_one _ _).symm _⟩
    · refine ⟨_, hk, ret_mono (Any.strings_TrimRight_set Tryz.lay162 Tryz.zeroValue135 (by kernel_rfl) t u w hu2 (by omega) hl (by omega) hasc) ?_⟩
      rintro e w' ⟨he, rfl⟩
      refine ⟨_, he, ?_, fin _ rfl _⟩
      exact ((Below.refl _ _).alloc (Nat.le_refl _) _).alloc (by simp) _

theorem atoi_ok : Yard.Spec.Ok Tryz.prog 105 (atoi_S R) := by
  refine hand_plain Tryz.func105 rfl rfl fun vs hp k r hk w c args wf ra => ?_
  unfold atoi_S at hk
  split at hk <;> try (first | cases hk)
  rename_i s
  obtain ⟨hc, hk⟩ := chk_some hk
  simp only [decide_eq_true_eq] at hc
  obtain ⟨a, rfl, r1⟩ := repL1 ra
  obtain ⟨t, rfl, rfl, hl⟩ := r1.str_inv
  rw [size_data] at hc
  obtain ⟨_, _, ⟨t1, x1, hv1⟩, ⟨t2, x2, hv2⟩⟩ := wf.lay.1
  have hval : IntKind.i64.has (atoiVal t.data.toList) := by
    unfold atoiVal
    split
    · rename_i v hv
      unfold Go.Lib.atoiAll at hv
      split at hv
      · cases hv
      · dsimp only at hv
        split at hv
        · cases hv
        · cases hv
        · rename_i u _
          split at hv
          · cases hv
          · split at hv
            · cases hv
            · cases hv
              split <;> simp [IntKind.has, IntKind.min, IntKind.max, IntKind.signed, IntKind.bits] <;> omega
    · unfold Go.Lib.atoiSat
      split <;> simp [IntKind.has, IntKind.min, IntKind.max, IntKind.signed, IntKind.bits]
    · simp [IntKind.has, IntKind.min, IntKind.max, IntKind.signed, IntKind.bits]
  have two : ∀ (z : Int) (u : V) (w' : World) (x : Value), atoiVal t.data.toList = z → Rep w' hp c u x → Rep w' hp c (.tuple [.int .i64 (atoiVal t.data.toList), u]) (.tuple #[.int .i64 z, x]) := fun z u w' x hz hx => by
    subst hz
    refine .tuple rfl fun j v d hv hd => ?_
    match j, hv, hd with
    | 0, hv, hd => simp at hv hd; subst hv; subst hd; exact .int hval
    | 1, hv, hd => simp at hv hd; subst hv; subst hd; exact hx
    | j + 2, hv, _ => simp at hv
  rcases hA : Go.Lib.atoiAll t.data.toList with v | _ | _
  ·
    have e1 : atoiOk t.data.toList = true := by unfold atoiOk; rw [hA]
    have e2 : atoiVal t.data.toList = v := by unfold atoiVal; rw [hA]
    rw [e1] at hk
    refine ⟨_, hk, ret_mono (Any.strconv_Atoi_ok Tryz.lay172 t (by omega) v hA w) ?_⟩
    rintro e w' ⟨he, hb⟩
    refine ⟨_, he, ?_, two _ _ _ _ e2 .niliface⟩
    rcases hb with rfl | ⟨q, rfl⟩
    · exact Below.refl _ _
    · exact below_bytes _ _
  ·
    have e1 : atoiOk t.data.toList = false := by unfold atoiOk; rw [hA]
    have e2 : atoiVal t.data.toList = 0 := by unfold atoiVal; rw [hA]
    rw [e1] at hk
    refine ⟨_, hk, ret_mono (Any.strconv_Atoi_syntax Tryz.lay172 t hc hA (.iface t1 x1) w hv1 (.inr ⟨_, _, rfl⟩)) ?_⟩
    rintro e w' ⟨q, he, _, _, hb⟩
    exact ⟨_, he, hb, two _ _ _ _ e2 (.iface _ _)⟩
  ·
    have e1 : atoiOk t.data.toList = false := by unfold atoiOk; rw [hA]
    have e2 : atoiVal t.data.toList = Go.Lib.atoiSat t.data.toList := by unfold atoiVal; rw [hA]
    rw [e1] at hk
    refine ⟨_, hk, ret_mono (Any.strconv_Atoi_range Tryz.lay172 t hc hA (.iface t2 x2) w hv2 (.inr ⟨_, _, rfl⟩)) ?_⟩
    rintro e w' ⟨q, he, _, _, hb⟩
    exact ⟨_, he, hb, two _ _ _ _ e2 (.iface _ _)⟩

theorem toErr_ok : Yard.Spec.Ok Tryz.prog 136 (toErr_S R 184) := by
  refine hand_plain Tryz.func136 rfl rfl fun vs hp k r hk w c args wf ra => ?_
  unfold toErr_S at hk
  split at hk <;> try (first | cases hk)
  rename_i fn s b1 b2 t n
  obtain ⟨hc, hk1⟩ := chk_some hk
  obtain ⟨hl0, hk2⟩ := chk_some hk1
  simp only [Bool.and_eq_true, Bool.or_eq_true, beq_iff_eq, decide_eq_true_eq] at hc hl0
  obtain ⟨ht, hn⟩ := hc
  have ht := Nat.eq_of_beq_eq_true ht
  subst ht
  obtain ⟨l⟩ := args
  match l, ra with
  | [a1, a2, a3, a4, a5], ra =>
    obtain ⟨t1, rfl, rfl, _⟩ := ra.head.str_inv
    obtain ⟨t2, rfl, rfl, hl2⟩ := ra.tail.head.str_inv
    obtain ⟨rfl, _⟩ := ra.tail.tail.head.int_inv
    obtain ⟨rfl, _⟩ := ra.tail.tail.tail.head.int_inv
    obtain ⟨rfl, _⟩ := ra.tail.tail.tail.tail.head.ifi_inv
    rw [size_data] at hl0
    obtain ⟨_, _, ⟨p1, x1, hv1⟩, ⟨p2, x2, hv2⟩⟩ := wf.lay.1
    rcases hn with rfl | rfl
    · refine ⟨_, hk2, ret_mono (Any.strconv_toError_syntax Tryz.lay245 t1 t2 b1 b2 (.iface p1 x1) w hl0 hv1 (.inr ⟨_, _, rfl⟩)) ?_⟩
      rintro e w' ⟨q, he, _, _, hb⟩
      exact ⟨_, he, hb, .iface _ _⟩
    · refine ⟨_, hk2, ret_mono (Any.strconv_toError_range Tryz.lay245 t1 t2 b1 b2 (.iface p2 x2) w hl0 hv2 (.inr ⟨_, _, rfl⟩)) ?_⟩
      rintro e w' ⟨q, he, _, _, hb⟩
      exact ⟨_, he, hb, .iface _ _⟩
  | [], ra => have := ra.1; simp at this
  | [_], ra => have := ra.1; simp at this
  | [_, _], ra => have := ra.1; simp at this
  | [_, _, _], ra => have := ra.1; simp at this
  | [_, _, _, _], ra => have := ra.1; simp at this
  | _ :: _ :: _ :: _ :: _ :: _ :: _, ra => have := ra.1; simp at this

theorem hasAny_ok : Yard.Spec.Ok Tryz.prog 173 (hasAny_S R) := by
  refine hand_plain Tryz.func173 rfl rfl fun vs hp k r hk w c args wf ra => ?_
  unfold hasAny_S at hk
  split at hk <;> try (first | cases hk)
  rename_i s cs
  obtain ⟨hc, hk⟩ := chk_some hk
  simp only [Bool.and_eq_true, decide_eq_true_eq] at hc
  obtain ⟨⟨⟨ha, hb⟩, hsl⟩, hcl⟩ := hc
  obtain ⟨a, b, rfl, r1, r2⟩ := repL2 ra
  obtain ⟨t, rfl, rfl, hl⟩ := r1.str_inv
  obtain ⟨u, rfl, rfl, hl2⟩ := r2.str_inv
  rw [size_data] at hsl hcl
  refine ⟨_, hk, ret_mono (Any.strings_ContainsAny_laid Tryz.lay150 (by kernel_rfl) t u w hsl hcl (asc_get ha) (asc_get hb)) ?_⟩
  rintro e w' ⟨he, hb⟩
  exact ⟨_, he, hb, .bool _⟩

theorem idx_ok : Yard.Spec.Ok Tryz.prog 71 (idx_S R) := by
  refine hand_plain Tryz.func71 rfl rfl fun vs hp k r hk w c args wf ra => ?_
  unfold idx_S at hk
  split at hk <;> try (first | cases hk)
  rename_i s ch
  obtain ⟨a, b, rfl, r1, r2⟩ := repL2 ra
  obtain ⟨t, rfl, rfl, hl⟩ := r1.str_inv
  obtain ⟨rfl, hn⟩ := r2.int_inv
  have hb : IntKind.i64.has (Go.Lib.indexByte t.data.toList ch.toNat.toUInt8) := by
    have h1 := Go.Lib.indexByte_ge t.data.toList ch.toNat.toUInt8
    have h2 : Go.Lib.indexByte t.data.toList ch.toNat.toUInt8 ≤ t.data.toList.length := by
      generalize t.data.toList = l
      induction l with
      | nil => simp [Go.Lib.indexByte]
      | cons x l ih =>
        have := Go.Lib.indexByte_ge l ch.toNat.toUInt8
        unfold Go.Lib.indexByte
        split
        · simp; omega
        · split
          · simp; omega
          · simp; omega
    rw [size_data] at h2
    unfold mx at hl
    generalize Go.Lib.indexByte t.data.toList ch.toNat.toUInt8 = z at h1 h2
    simp [IntKind.has, IntKind.min, IntKind.max, IntKind.signed, IntKind.bits]; omega
  refine ⟨_, hk, ret_mono (Any.strings_IndexByte Tryz.lay137 t ch w) ?_⟩
  rintro e w' ⟨he, rfl⟩
  exact ⟨_, he, Below.refl _ _, .int hb⟩

theorem bccL : Lays.n240 Tryz.prog Tryz.lay105_ren := { Tryz.lay105 with }
theorem bcc_is : Yard.Spec.Ok Tryz.prog 73 (bcc_S R) :=
  bcc_ok Tryz.func73 rfl rfl (fun b w h0 hs hf => Any.Builder_copyCheck_fresh bccL x72 b w h0 hs hf) (fun b w h0 => Any.Builder_copyCheck_used bccL x72 b w h0)

theorem bstrL : Lays.n169 Tryz.prog Tryz.lay169_ren := Tryz.lay169
theorem xBuilder169 : Builder.Extra Tryz.prog Tryz.lay169_ren := { sizeBuilder := by kernel_rfl, liesBuilder := by kernel_rfl, t5 := Tryz.underlying5, a5 := Tryz.isAgg5, z5 := Tryz.sizeOf5, v5 := Tryz.zeroValue5, infoByte := by kernel_rfl, cellsByte := by kernel_rfl, sizeByte := by kernel_rfl, neB5 := by decide }

set_option maxHeartbeats 1000000 in
theorem string_some (b q cap : Nat) (p : Value) (cur : Array Value) (fz : Nat × Nat) (l : List UInt8) (w : World) (h0 : l ≠ []) (hbk : w.heap[b]? = some (.cells #[p, .slice (some ⟨q, 0, none⟩) l.length cap] lay0.bld (0, 0)))
    (hq : w.heap[q]? = some (.cells cur lay0.u8 fz)) (hnc : l.length ≤ cap) (hcm : cap ≤ mx) (hsz : l.length ≤ cur.size) (hcell : ∀ (j : Nat) (x : UInt8), l[j]? = some x → w.cell? ⟨q, j, none⟩ = some (.int .u8 x.toNat)) :
    Calls Tryz.prog 39 #[.pointer (some ⟨b, 0, none⟩)] w fun e w' => e = .returned (.string ⟨l.toArray⟩) ∧ w' = w.drew.freeze ⟨q, 0, none⟩ l.length := by
  have hl0 : l.length ≠ 0 := by simpa using h0
  have L := bstrL
  have X := xBuilder169
  have c1 : w.drew.cell? ⟨b, 1, none⟩ = some (.slice (some ⟨q, 0, none⟩) l.length cap) := by
    have h1 : w.drew.heap[b]? = some (.cells #[p, .slice (some ⟨q, 0, none⟩) l.length cap] lay0.bld (0, 0)) := hbk
    rw [Lib.cell_of_heap h1]; rfl
  have hSD : (Builtin.unsafeSliceData_ #[41] 106 #[.slice (some ⟨q, 0, none⟩) l.length cap]).run Tryz.prog w.drew = .ok (.pointer (some ⟨q, 0, none⟩)) w.drew :=
    Lib.run_unsafeSliceData_row _ _ _ _ _ _ (by omega)
  have hUS : (Builtin.unsafeString_ #[106, 3] 9 #[.pointer (some ⟨q, 0, none⟩), .int .i64 l.length]).run Tryz.prog w.drew = .ok (.string ⟨l.toArray⟩) (w.drew.freeze ⟨q, 0, none⟩ l.length) := by
    refine Lib.run_unsafeString_row w.drew 106 3 9 5 L.t127 X.cellsByte q cur.size (by have hq' : w.drew.heap[q]? = some (.cells cur 5 fz) := hq; simp [World.shape?, hq']) l h0 hsz (by unfold mx at hcm; omega) ?_
    intro j x hx
    have := hcell j x hx
    rw [Yard.add_off, Nat.zero_add]
    exact this
  have mixed := L.mixed
  have t72 := L.t72; have a72 := L.a72; have z72 := L.z72; have v72 := L.v72; have u72 := run_underlying L.t72
  have t70 := L.t70; have a70 := L.a70; have z70 := L.z70; have v70 := L.v70; have u70 := run_underlying L.t70
  have t37 := L.t37; have a37 := L.a37; have z37 := L.z37; have v37 := L.v37; have u37 := run_underlying L.t37
  have t127 := L.t127; have a127 := L.a127; have z127 := L.z127; have v127 := L.v127; have u127 := run_underlying L.t127
  have t3 := L.t3; have a3 := L.a3; have z3 := L.z3; have v3 := L.v3; have u3 := run_underlying L.t3
  have t9 := L.t9; have a9 := L.a9; have z9 := L.z9; have v9 := L.v9; have u9 := run_underlying L.t9
  have t5 := X.t5; have a5 := X.a5; have z5 := X.z5; have v5 := X.v5; have u5 := run_underlying X.t5
  go_enter Tryz.func39, Tryz.ntmps39
  go_wp2
  go_region_o
  all_goals (go_wp2; go_ret; exact ⟨rfl, rfl⟩)

set_option maxHeartbeats 2000000 in
theorem string_noroom (b q : Nat) (p : Value) (cur : Array Value) (fz : Nat × Nat) (w : World) (hbk : w.heap[b]? = some (.cells #[p, .slice (some ⟨q, 0, none⟩) 0 0] lay0.bld (0, 0))) (hq : w.heap[q]? = some (.cells cur lay0.u8 fz)) :
    Calls Tryz.prog 39 #[.pointer (some ⟨b, 0, none⟩)] w fun e w' => e = .returned (.string ⟨#[]⟩) ∧ Below w.heap.size w w' := by
  have L := bstrL
  have X := xBuilder169
  have hUS : ∀ (W : World) (q : Option Addr), (Builtin.unsafeString_ #[106, 3] 9 #[.pointer q, .int .i64 0]).run Tryz.prog W = .ok (.string .empty) W := fun W q => Lib.run_unsafeString_none W _ _ _ q
  have hlt : b < w.heap.size := by
    rcases Nat.lt_or_ge b w.heap.size with h' | h'
    · exact h'
    · simp [Array.getElem?_eq_none h'] at hbk
  have c1 : w.drew.cell? ⟨b, 1, none⟩ = some (.slice (some ⟨q, 0, none⟩) 0 0) := by
    have : w.drew.heap[b]? = some (.cells #[p, .slice (some ⟨q, 0, none⟩) 0 0] lay0.bld (0, 0)) := hbk
    rw [Lib.cell_of_heap this]; rfl
  have hSD : (Builtin.unsafeSliceData_ #[41] 106 #[.slice (some ⟨q, 0, none⟩) 0 0]).run Tryz.prog w.drew = .ok (.pointer (some ⟨w.drew.heap.size, 0, none⟩)) (w.drew.alloc (.view ⟨q, 0, none⟩ 5)) :=
    Lib.run_unsafeSliceData_zero w.drew _ _ 5 L.t127 ⟨q, 0, none⟩ 0 (5, cur.size) (by have hq' : w.drew.heap[q]? = some (.cells cur 5 fz) := hq; simp [World.shape?, hq'])
  have c2 : (w.drew.alloc (.view ⟨q, 0, none⟩ 5)).cell? ⟨b, 1, none⟩ = some (.slice (some ⟨q, 0, none⟩) 0 0) := by
    have : (w.drew.alloc (.view ⟨q, 0, none⟩ 5)).heap[b]? = _ := (Lib.alloc_old w.drew _ b hlt).trans hbk
    rw [Lib.cell_of_heap this]; rfl
  have c3 : (w.alloc (.view ⟨q, 0, none⟩ 5)).drew.cell? ⟨b, 1, none⟩ = some (.slice (some ⟨q, 0, none⟩) 0 0) := c2
  have c0 : w.cell? ⟨b, 1, none⟩ = some (.slice (some ⟨q, 0, none⟩) 0 0) := c1
  have mixed := L.mixed
  have t72 := L.t72; have a72 := L.a72; have z72 := L.z72; have v72 := L.v72; have u72 := run_underlying L.t72
  have t70 := L.t70; have a70 := L.a70; have z70 := L.z70; have v70 := L.v70; have u70 := run_underlying L.t70
  have t37 := L.t37; have a37 := L.a37; have z37 := L.z37; have v37 := L.v37; have u37 := run_underlying L.t37
  have t127 := L.t127; have a127 := L.a127; have z127 := L.z127; have v127 := L.v127; have u127 := run_underlying L.t127
  have t3 := L.t3; have a3 := L.a3; have z3 := L.z3; have v3 := L.v3; have u3 := run_underlying L.t3
  have t9 := L.t9; have a9 := L.a9; have z9 := L.z9; have v9 := L.v9; have u9 := run_underlying L.t9
  have t5 := X.t5; have a5 := X.a5; have z5 := X.z5; have v5 := X.v5; have u5 := run_underlying X.t5
  go_enter Tryz.func39, Tryz.ntmps39
  go_wp2
  go_region_o
  all_goals (go_wp2; go_ret; exact ⟨rfl, (Below.drew (Below.refl _ w)).alloc (Nat.le_refl _) _⟩)

theorem string_does : StringDoes Tryz.prog 39 where
  nil := fun b p w hbk => Any.Builder_String_nil bstrL xBuilder169 w.heap.size b p w hbk
  noroom := string_noroom
  room := fun b q cap p w hc hbk => Any.Builder_String_room bstrL xBuilder169 w.heap.size b q cap p w hc hbk
  some := string_some

theorem bstr_is : Yard.Spec.Ok Tryz.prog 39 (bstr_S R) := bstr_ok Tryz.func39 rfl rfl string_does

end
end Go.Proofs.YtmlkkgfenfdndaaGreatDoor

/-
  Functions of the program as pure Lean functions, and the ties; printed by wip/tools/emit.py.
-/
set_option maxRecDepth 100000
set_option linter.unusedVariables false
namespace Go.Proofs.YtmlkkgfenfdndaaGreatDoor
open Go Go.Yard

/-! ### humpyard/humpyardlaw03.pick -/
abbrev law03_pick_ty (R : Type) : Type := Int → Int → (Int → Option R) → Option R
abbrev law03_pick_p : List Pat := [.leaf (.int .i64), .leaf (.int .i64)]
abbrev law03_pick_q : List HPat := []
noncomputable def law03_pick_rr {R : Type} (fn : law03_pick_ty R) : Pat.dens law03_pick_p → HPat.dens law03_pick_q → (V → Heap → Option R) → Option R := fun x y k => fn x.1 x.2.1 (fun q0 => k (.int .i64 q0) [])
noncomputable def law03_pick_E (R : Type) : Env R := fun i => match i with
  | _ => none
theorem law03_pick_EOk (R : Type) : EOk Tryz.prog (law03_pick_E R) := by
  intro i b sp h
  unfold law03_pick_E at h
  split at h
  · cases h

noncomputable def law03_pick_T (R : Type) : Nat → Option (Hint × LSpec R) := fun i => match i with
  | _ => none

noncomputable def law03_pick_X {R : Type} (x1 : Int) (x2 : Int) (k0 : Int → Option R) : Option R :=
  bif (decide (x1 < (0 : Int))) then (chk (!decide (x2 = 0)) (k0 (Int.tmod (IntKind.i64.wrap (0 - (IntKind.i64.wrap (x1 + 1)))) x2))) else (chk (!decide (x2 = 0)) (k0 (Int.tmod x1 x2)))
noncomputable def law03_pick {R : Type} : law03_pick_ty R := fun x1 x2 k0 => law03_pick_X x1 x2 k0
theorem law03_pick_ok {R : Type} (x1 : Int) (x2 : Int) (k : V → Heap → Option R) : funK tt (law03_pick_E R) (law03_pick_T R) false Tryz.f27 (codeOf Tryz.f27) [.int .i64 x1, .int .i64 x2] [] k =
    law03_pick_X x1 x2 (fun q0 => k (.int .i64 q0) []) := by kernel_rfl
theorem law03_pick_loops (R : Type) : ∀ a ∈ loopsOf (codeOf Tryz.f27), LoopOk tt (law03_pick_E R) (law03_pick_T R) 0 a := by
  refine loops_ok 0 (by kernel_rfl) fun i hi => ?_
  omega
theorem law03_pick_S_ok (R : Type) (other : Yard.Spec R) (ho : Yard.Spec.Ok Tryz.prog 27 other) : Yard.Spec.Ok Tryz.prog 27 (specBy law03_pick_p law03_pick_q (law03_pick_rr law03_pick) other) :=
  specBy_ok ho (funK_sound TT mixed (law03_pick_EOk R) (keep := false) rfl rfl rfl rfl 0 (law03_pick_loops R)) fun (x : Pat.dens law03_pick_p) (y : HPat.dens law03_pick_q) k => law03_pick_ok x.1 x.2.1 k

/-! ### humpyard/humpyardlaw02.pick -/
abbrev law02_pick_ty (R : Type) : Type := Int → Int → (Int → Option R) → Option R
abbrev law02_pick_p : List Pat := [.leaf (.int .i64), .leaf (.int .i64)]
abbrev law02_pick_q : List HPat := []
noncomputable def law02_pick_rr {R : Type} (fn : law02_pick_ty R) : Pat.dens law02_pick_p → HPat.dens law02_pick_q → (V → Heap → Option R) → Option R := fun x y k => fn x.1 x.2.1 (fun q0 => k (.int .i64 q0) [])
noncomputable def law02_pick_E (R : Type) : Env R := fun i => match i with
  | _ => none
theorem law02_pick_EOk (R : Type) : EOk Tryz.prog (law02_pick_E R) := by
  intro i b sp h
  unfold law02_pick_E at h
  split at h
  · cases h

noncomputable def law02_pick_T (R : Type) : Nat → Option (Hint × LSpec R) := fun i => match i with
  | _ => none

noncomputable def law02_pick_X {R : Type} (x1 : Int) (x2 : Int) (k0 : Int → Option R) : Option R :=
  bif (decide (x1 < (0 : Int))) then (chk (!decide (x2 = 0)) (k0 (Int.tmod (IntKind.i64.wrap (0 - (IntKind.i64.wrap (x1 + 1)))) x2))) else (chk (!decide (x2 = 0)) (k0 (Int.tmod x1 x2)))
noncomputable def law02_pick {R : Type} : law02_pick_ty R := fun x1 x2 k0 => law02_pick_X x1 x2 k0
theorem law02_pick_ok {R : Type} (x1 : Int) (x2 : Int) (k : V → Heap → Option R) : funK tt (law02_pick_E R) (law02_pick_T R) false Tryz.f60 (codeOf Tryz.f60) [.int .i64 x1, .int .i64 x2] [] k =
    law02_pick_X x1 x2 (fun q0 => k (.int .i64 q0) []) := by kernel_rfl
theorem law02_pick_loops (R : Type) : ∀ a ∈ loopsOf (codeOf Tryz.f60), LoopOk tt (law02_pick_E R) (law02_pick_T R) 0 a := by
  refine loops_ok 0 (by kernel_rfl) fun i hi => ?_
  omega
theorem law02_pick_S_ok (R : Type) (other : Yard.Spec R) (ho : Yard.Spec.Ok Tryz.prog 60 other) : Yard.Spec.Ok Tryz.prog 60 (specBy law02_pick_p law02_pick_q (law02_pick_rr law02_pick) other) :=
  specBy_ok ho (funK_sound TT mixed (law02_pick_EOk R) (keep := false) rfl rfl rfl rfl 0 (law02_pick_loops R)) fun (x : Pat.dens law02_pick_p) (y : HPat.dens law02_pick_q) k => law02_pick_ok x.1 x.2.1 k

/-! ### humpyard/humpyardlaw02.Text -/
abbrev law02_Text_ty (R : Type) : Type := (List Int) → (Str → Option R) → Option R
abbrev law02_Text_p : List Pat := [.leaf (.sl (.int .i64))]
abbrev law02_Text_q : List HPat := []
noncomputable def law02_Text_rr {R : Type} (fn : law02_Text_ty R) : Pat.dens law02_Text_p → HPat.dens law02_Text_q → (V → Heap → Option R) → Option R := fun x y k => fn x.1 (fun q0 => k (.str q0) [])
abbrev law02_Text_3_0_ty (R : Type) : Type := Nat → (List Int) → Str → Int → (Str → Option R) → Option R
noncomputable def law02_Text_E (R : Type) (law02_pick : law02_pick_ty R) : Env R := fun i => match i with
  | 60 => some (true, (specBy law02_pick_p law02_pick_q (law02_pick_rr law02_pick) specNo))
  | _ => none
theorem law02_Text_EOk (R : Type) : EOk Tryz.prog (law02_Text_E R law02_pick) := by
  intro i b sp h
  unfold law02_Text_E at h
  split at h
  · cases h; exact ⟨(law02_pick_S_ok R _ (specNo_ok _)), fun h => nomatch h⟩
  · cases h

noncomputable def law02_Text_3_0_B {R : Type} (law02_pick : law02_pick_ty R) (rec' : (List Int) → Str → Int → Option R) (x2 : List Int) (x3 : Str) (x4 : Int) (e0 : Str → Option R) : Option R :=
  bif (decide (x4 < (x2.length : Int))) then (bif (decide (x4 < (200 : Int))) then (chk (decide ((0 : Int) ≤ x4) && decide (x4 < x2.length)) (let j16 := fun (z13 : Int) => bif (decide (z13 ≥ (55296 : Int))) then (bif (decide (z13 ≤ (57343 : Int))) then (chk (decide (x3.length + (runesB ([120] : List Int)).length ≤ 9223372036854775807)) (rec' x2 (x3 ++ (runesB ([120] : List Int))) (IntKind.i64.wrap (x4 + 1)))) else (chk (decide (x3.length + (runesB ([(IntKind.i32.wrap z13)] : List Int)).length ≤ 9223372036854775807)) (rec' x2 (x3 ++ (runesB ([(IntKind.i32.wrap z13)] : List Int))) (IntKind.i64.wrap (x4 + 1))))) else (chk (decide (x3.length + (runesB ([(IntKind.i32.wrap z13)] : List Int)).length ≤ 9223372036854775807)) (rec' x2 (x3 ++ (runesB ([(IntKind.i32.wrap z13)] : List Int))) (IntKind.i64.wrap (x4 + 1)))); law02_pick (x2.getD x4.toNat (Ty.dflt (.int .i64))) 5 (fun y6 => let j12 := fun (z7 : Bool) => bif z7 then (law02_pick (IntKind.i64.wrap (Int.tdiv (x2.getD x4.toNat (Ty.dflt (.int .i64))) 5)) 128 (fun y8 => j16 y8)) else (bif (y6 == 2) then (law02_pick (IntKind.i64.wrap (Int.tdiv (x2.getD x4.toNat (Ty.dflt (.int .i64))) 5)) 2048 (fun y9 => j16 y9)) else (bif (y6 == 3) then (law02_pick (IntKind.i64.wrap (Int.tdiv (x2.getD x4.toNat (Ty.dflt (.int .i64))) 5)) 65536 (fun y10 => j16 y10)) else (law02_pick (IntKind.i64.wrap (Int.tdiv (x2.getD x4.toNat (Ty.dflt (.int .i64))) 5)) 1114112 (fun y11 => j16 y11)))); bif (y6 == 0) then (j12 (y6 == 0)) else (j12 (y6 == 1))))) else (e0 x3)) else (e0 x3)
noncomputable def law02_Text_3_0_L {R : Type} : law02_Text_3_0_ty R
  | 0, _, _, _, _ => none
  | n + 1, x0', x1', x2', e0 => law02_Text_3_0_B law02_pick (fun x0' x1' x2' => law02_Text_3_0_L n x0' x1' x2' e0) x0' x1' x2' e0
noncomputable def law02_Text_3_0_h : Hint := { live := [0, 3, 4], own := [], rows := [], cells := [], drop := [], out := [2, 3] }
abbrev law02_Text_3_0_D : Type := (List Int) × Str × Int
noncomputable def law02_Text_3_0_enc : law02_Text_3_0_D → St := fun d => ⟨[.sl (.int .i64) d.1 .no, .undef, .undef, .str d.2.1, .int .i64 d.2.2, .undef, .undef, .undef, .undef, .undef, .undef, .undef, .undef, .undef, .undef, .undef, .undef, .undef, .undef, .undef, .undef, .undef, .undef, .undef, .undef, .undef, .undef, .undef, .undef, .undef, .undef, .undef, .undef, .undef, .undef, .undef, .undef, .undef, .undef, .undef, .undef, .undef, .undef, .undef, .undef, .undef, .undef, .undef, .undef, .undef, .undef, .undef, .undef, .undef, .undef], []⟩
noncomputable def law02_Text_3_0_x0 {R : Type} (K : Ex → St → Option R) (q0 : Str) : Option R := K (.exit 0) ⟨[.undef, .undef, .undef, .str q0, .undef, .undef, .undef, .undef, .undef, .undef, .undef, .undef, .undef, .undef, .undef, .undef, .undef, .undef, .undef, .undef, .undef, .undef, .undef, .undef, .undef, .undef, .undef, .undef, .undef, .undef, .undef, .undef, .undef, .undef, .undef, .undef, .undef, .undef, .undef, .undef, .undef, .undef, .undef, .undef, .undef, .undef, .undef, .undef, .undef, .undef, .undef, .undef, .undef, .undef, .undef], []⟩
noncomputable def law02_Text_3_0_s {R : Type} (law02_pick : law02_pick_ty R) (K : Ex → St → Option R) (rc : law02_Text_3_0_D → Option R) (d : law02_Text_3_0_D) : Option R := law02_Text_3_0_B law02_pick (fun z0 z1 z2 => rc (z0, z1, z2)) d.1 d.2.1 d.2.2 (law02_Text_3_0_x0 K)
noncomputable def law02_Text_3_0_A {R : Type} (K : Ex → St → Option R) (n : Nat) (d : law02_Text_3_0_D) : Option R := law02_Text_3_0_L n d.1 d.2.1 d.2.2 (law02_Text_3_0_x0 K)
abbrev law02_Text_3_0_p : List Pat := [.leaf (.sl (.int .i64)), .leaf (.undef), .leaf (.undef), .leaf (.str), .leaf (.int .i64), .leaf (.undef), .leaf (.undef), .leaf (.undef), .leaf (.undef), .leaf (.undef), .leaf (.undef), .leaf (.undef), .leaf (.undef), .leaf (.undef), .leaf (.undef), .leaf (.undef), .leaf (.undef), .leaf (.undef), .leaf (.undef), .leaf (.undef), .leaf (.undef), .leaf (.undef), .leaf (.undef), .leaf (.undef), .leaf (.undef), .leaf (.undef), .leaf (.undef), .leaf (.undef), .leaf (.undef), .leaf (.undef), .leaf (.undef), .leaf (.undef), .leaf (.undef), .leaf (.undef), .leaf (.undef), .leaf (.undef), .leaf (.undef), .leaf (.undef), .leaf (.undef), .leaf (.undef), .leaf (.undef), .leaf (.undef), .leaf (.undef), .leaf (.undef), .leaf (.undef), .leaf (.undef), .leaf (.undef), .leaf (.undef), .leaf (.undef), .leaf (.undef), .leaf (.undef), .leaf (.undef), .leaf (.undef), .leaf (.undef), .leaf (.undef)]
abbrev law02_Text_3_0_q : List HPat := []
noncomputable def law02_Text_3_0_f (x : Pat.dens law02_Text_3_0_p) (y : HPat.dens law02_Text_3_0_q) : Nat := (List.length x.1 + List.length x.2.2.2.1 + Int.natAbs x.2.2.2.2.1 + 64)
noncomputable def law02_Text_3_0_d (x : Pat.dens law02_Text_3_0_p) (y : HPat.dens law02_Text_3_0_q) : law02_Text_3_0_D := (x.1, x.2.2.2.1, x.2.2.2.2.1)
noncomputable def law02_Text_3_0_rr {R : Type} (L : law02_Text_3_0_ty R) : Pat.dens law02_Text_3_0_p → HPat.dens law02_Text_3_0_q → (Ex → St → Option R) → Option R := fun x y K => L (law02_Text_3_0_f x y) x.1 x.2.2.2.1 x.2.2.2.2.1 (law02_Text_3_0_x0 K)
noncomputable def law02_Text_T (R : Type) (law02_Text_3_0_L : law02_Text_3_0_ty R) : Nat → Option (Hint × LSpec R) := fun i => match i with
  | 3 => some (law02_Text_3_0_h, (loopBy law02_Text_3_0_p law02_Text_3_0_q (law02_Text_3_0_rr law02_Text_3_0_L) loopNo))
  | _ => none

theorem law02_Text_3_0_B_ok {R : Type} (law02_pick : law02_pick_ty R) (law02_Text_3_0_L : law02_Text_3_0_ty R) (K : Ex → St → Option R) (rc : St → Option R) (d : law02_Text_3_0_D) : roundOf tt (law02_Text_E R law02_pick) (law02_Text_T R law02_Text_3_0_L) 0 ((loopsOf (codeOf Tryz.f37)).getD 0 .skip) law02_Text_3_0_h (law02_Text_3_0_enc d) rc K = law02_Text_3_0_s law02_pick K (fun d => rc (law02_Text_3_0_enc d)) d := by kernel_rfl
theorem law02_Text_3_0_A_succ {R : Type} (K : Ex → St → Option R) (n : Nat) (d : law02_Text_3_0_D) : law02_Text_3_0_A K (n + 1) d = law02_Text_3_0_s law02_pick K (law02_Text_3_0_A K n) d := by kernel_rfl
theorem law02_Text_3_0_A_zero {R : Type} (K : Ex → St → Option R) (d : law02_Text_3_0_D) : law02_Text_3_0_A K 0 d = none := by kernel_rfl
theorem law02_Text_3_0_e_ok (x : Pat.dens law02_Text_3_0_p) (y : HPat.dens law02_Text_3_0_q) : (⟨Pat.encL law02_Text_3_0_p x, HPat.encL law02_Text_3_0_q y⟩ : St) = law02_Text_3_0_enc (law02_Text_3_0_d x y) := by kernel_rfl
theorem law02_Text_3_0_r_ok {R : Type} (x : Pat.dens law02_Text_3_0_p) (y : HPat.dens law02_Text_3_0_q) (K : Ex → St → Option R) : law02_Text_3_0_rr (law02_Text_3_0_L) x y K = law02_Text_3_0_A K (law02_Text_3_0_f x y) (law02_Text_3_0_d x y) := by kernel_rfl
theorem law02_Text_3_0_ok {R : Type} (other : LSpec R) (ho : LsOk tt (law02_Text_E R law02_pick) (law02_Text_T R law02_Text_3_0_L) 0 ((loopsOf (codeOf Tryz.f37)).getD 0 .skip) law02_Text_3_0_h other) : LsOk tt (law02_Text_E R law02_pick) (law02_Text_T R law02_Text_3_0_L) 0 ((loopsOf (codeOf Tryz.f37)).getD 0 .skip) law02_Text_3_0_h (loopBy law02_Text_3_0_p law02_Text_3_0_q (law02_Text_3_0_rr (law02_Text_3_0_L)) other) :=
  loopBy_tie (A := law02_Text_3_0_A) ho (loop_tie law02_Text_3_0_enc (law02_Text_3_0_s law02_pick) (law02_Text_3_0_A) (law02_Text_3_0_A_zero) (law02_Text_3_0_B_ok law02_pick law02_Text_3_0_L) (law02_Text_3_0_A_succ)) law02_Text_3_0_f law02_Text_3_0_d law02_Text_3_0_e_ok (law02_Text_3_0_r_ok)

noncomputable def law02_Text_X {R : Type} (law02_Text_3_0_L : law02_Text_3_0_ty R) (x1 : List Int) (k0 : Str → Option R) : Option R :=
  law02_Text_3_0_L (List.length x1 + List.length ([] : Str) + Int.natAbs 0 + 64) x1 ([] : Str) 0 (fun y18 => k0 y18)
noncomputable def law02_Text {R : Type} : law02_Text_ty R := fun x1 k0 => law02_Text_X law02_Text_3_0_L x1 k0
theorem law02_Text_ok {R : Type} (law02_pick : law02_pick_ty R) (law02_Text_3_0_L : law02_Text_3_0_ty R) (x1 : List Int) (k : V → Heap → Option R) : funK tt (law02_Text_E R law02_pick) (law02_Text_T R law02_Text_3_0_L) false Tryz.f37 (codeOf Tryz.f37) [.sl (.int .i64) x1 .no] [] k =
    law02_Text_X law02_Text_3_0_L x1 (fun q0 => k (.str q0) []) := by kernel_rfl
theorem law02_Text_loops (R : Type) : ∀ a ∈ loopsOf (codeOf Tryz.f37), LoopOk tt (law02_Text_E R law02_pick) (law02_Text_T R law02_Text_3_0_L) 0 a := by
  refine loops_ok 1 (by kernel_rfl) fun i hi => ?_
  match i, hi with
  | 0, _ => exact loopOk_some (by kernel_rfl) (law02_Text_3_0_ok _ loopNo_ok)
  | n + 1, hi => omega
theorem law02_Text_S_ok (R : Type) (other : Yard.Spec R) (ho : Yard.Spec.Ok Tryz.prog 37 other) : Yard.Spec.Ok Tryz.prog 37 (specBy law02_Text_p law02_Text_q (law02_Text_rr law02_Text) other) :=
  specBy_ok ho (funK_sound TT mixed (law02_Text_EOk R) (keep := false) rfl rfl rfl rfl 0 (law02_Text_loops R)) fun (x : Pat.dens law02_Text_p) (y : HPat.dens law02_Text_q) k => law02_Text_ok law02_pick law02_Text_3_0_L x.1 k

/-! ### humpyard/quote.Whole -/
abbrev quote_Whole_ty (R : Type) : Type := Str → (Bool → Option R) → Option R
abbrev quote_Whole_p : List Pat := [.leaf (.str)]
abbrev quote_Whole_q : List HPat := []
noncomputable def quote_Whole_rr {R : Type} (fn : quote_Whole_ty R) : Pat.dens quote_Whole_p → HPat.dens quote_Whole_q → (V → Heap → Option R) → Option R := fun x y k => fn x.1 (fun q0 => k (.bool q0) [])
noncomputable def quote_Whole_E (R : Type) : Env R := fun i => match i with
  | 72 => some (true, (valid_S R))
  | _ => none
theorem quote_Whole_EOk (R : Type) : EOk Tryz.prog (quote_Whole_E R) := by
  intro i b sp h
  unfold quote_Whole_E at h
  split at h
  · cases h; exact ⟨(valid_ok), fun h => nomatch h⟩
  · cases h

noncomputable def quote_Whole_T (R : Type) : Nat → Option (Hint × LSpec R) := fun i => match i with
  | _ => none

noncomputable def quote_Whole_X {R : Type} (x1 : Str) (k0 : Bool → Option R) : Option R :=
  k0 (validS x1)
noncomputable def quote_Whole {R : Type} : quote_Whole_ty R := fun x1 k0 => quote_Whole_X x1 k0
theorem quote_Whole_ok {R : Type} (x1 : Str) (k : V → Heap → Option R) : funK tt (quote_Whole_E R) (quote_Whole_T R) false Tryz.f49 (codeOf Tryz.f49) [.str x1] [] k =
    quote_Whole_X x1 (fun q0 => k (.bool q0) []) := by kernel_rfl
theorem quote_Whole_loops (R : Type) : ∀ a ∈ loopsOf (codeOf Tryz.f49), LoopOk tt (quote_Whole_E R) (quote_Whole_T R) 0 a := by
  refine loops_ok 0 (by kernel_rfl) fun i hi => ?_
  omega
theorem quote_Whole_S_ok (R : Type) (other : Yard.Spec R) (ho : Yard.Spec.Ok Tryz.prog 49 other) : Yard.Spec.Ok Tryz.prog 49 (specBy quote_Whole_p quote_Whole_q (quote_Whole_rr quote_Whole) other) :=
  specBy_ok ho (funK_sound TT mixed (quote_Whole_EOk R) (keep := false) rfl rfl rfl rfl 0 (quote_Whole_loops R)) fun (x : Pat.dens quote_Whole_p) (y : HPat.dens quote_Whole_q) k => quote_Whole_ok x.1 k

/-! ### (*strings.Builder).WriteByte -/
abbrev strings_Builder_WriteByte_b66c_ty (R : Type) : Type := Int → ((List Int) → Option R) → Option R
abbrev strings_Builder_WriteByte_b66c_p : List Pat := [.leaf (.ptr 0 0), .leaf (.int .u8)]
abbrev strings_Builder_WriteByte_b66c_q : List HPat := [.bld (.nilsl)]
noncomputable def strings_Builder_WriteByte_b66c_rr {R : Type} (fn : strings_Builder_WriteByte_b66c_ty R) : Pat.dens strings_Builder_WriteByte_b66c_p → HPat.dens strings_Builder_WriteByte_b66c_q → (V → Heap → Option R) → Option R := fun x y k => fn x.2.1 (fun q0 => k (.niliface) [.bld (.sl (.int .u8) q0 (.own 1)), .tok])
noncomputable def strings_Builder_WriteByte_b66c_E (R : Type) : Env R := fun i => match i with
  | 73 => some (false, (bcc_S R))
  | _ => none
theorem strings_Builder_WriteByte_b66c_EOk (R : Type) : EOk Tryz.prog (strings_Builder_WriteByte_b66c_E R) := by
  intro i b sp h
  unfold strings_Builder_WriteByte_b66c_E at h
  split at h
  · cases h; exact ⟨(bcc_is), fun _ h => nomatch h⟩
  · cases h

noncomputable def strings_Builder_WriteByte_b66c_T (R : Type) : Nat → Option (Hint × LSpec R) := fun i => match i with
  | _ => none

noncomputable def strings_Builder_WriteByte_b66c_X {R : Type} (x1 : Int) (k0 : (List Int) → Option R) : Option R :=
  k0 ([x1] : List Int)
noncomputable def strings_Builder_WriteByte_b66c {R : Type} : strings_Builder_WriteByte_b66c_ty R := fun x1 k0 => strings_Builder_WriteByte_b66c_X x1 k0
theorem strings_Builder_WriteByte_b66c_ok {R : Type} (x1 : Int) (k : V → Heap → Option R) : funK tt (strings_Builder_WriteByte_b66c_E R) (strings_Builder_WriteByte_b66c_T R) false Tryz.f50 (codeOf Tryz.f50) [.ptr 0 0, .int .u8 x1] [.bld (.nilsl)] k =
    strings_Builder_WriteByte_b66c_X x1 (fun q0 => k (.niliface) [.bld (.sl (.int .u8) q0 (.own 1)), .tok]) := by kernel_rfl
theorem strings_Builder_WriteByte_b66c_loops (R : Type) : ∀ a ∈ loopsOf (codeOf Tryz.f50), LoopOk tt (strings_Builder_WriteByte_b66c_E R) (strings_Builder_WriteByte_b66c_T R) 1 a := by
  refine loops_ok 0 (by kernel_rfl) fun i hi => ?_
  omega
theorem strings_Builder_WriteByte_b66c_S_ok (R : Type) (other : Yard.Spec R) (ho : Yard.Spec.Ok Tryz.prog 50 other) : Yard.Spec.Ok Tryz.prog 50 (specBy strings_Builder_WriteByte_b66c_p strings_Builder_WriteByte_b66c_q (strings_Builder_WriteByte_b66c_rr strings_Builder_WriteByte_b66c) other) :=
  specBy_ok ho (funK_sound TT mixed (strings_Builder_WriteByte_b66c_EOk R) (keep := false) rfl rfl rfl rfl 1 (strings_Builder_WriteByte_b66c_loops R)) fun (x : Pat.dens strings_Builder_WriteByte_b66c_p) (y : HPat.dens strings_Builder_WriteByte_b66c_q) k => strings_Builder_WriteByte_b66c_ok x.2.1 k

/-! ### humpyard/quote.short -/
abbrev quote_short_ty (R : Type) : Type := Int → (Int → Option R) → Option R
abbrev quote_short_p : List Pat := [.leaf (.int .i32)]
abbrev quote_short_q : List HPat := []
noncomputable def quote_short_rr {R : Type} (fn : quote_short_ty R) : Pat.dens quote_short_p → HPat.dens quote_short_q → (V → Heap → Option R) → Option R := fun x y k => fn x.1 (fun q0 => k (.int .u8 q0) [])
noncomputable def quote_short_E (R : Type) : Env R := fun i => match i with
  | _ => none
theorem quote_short_EOk (R : Type) : EOk Tryz.prog (quote_short_E R) := by
  intro i b sp h
  unfold quote_short_E at h
  split at h
  · cases h

noncomputable def quote_short_T (R : Type) : Nat → Option (Hint × LSpec R) := fun i => match i with
  | _ => none

noncomputable def quote_short_X {R : Type} (x1 : Int) (k0 : Int → Option R) : Option R :=
  bif (x1 == 34) then (bif (x1 == 34) then (k0 (IntKind.u8.wrap x1)) else (bif (x1 == 8) then (k0 98) else (bif (x1 == 12) then (k0 102) else (bif (x1 == 10) then (k0 110) else (bif (x1 == 13) then (k0 114) else (bif (x1 == 9) then (k0 116) else (k0 0))))))) else (bif (x1 == 92) then (k0 (IntKind.u8.wrap x1)) else (bif (x1 == 8) then (k0 98) else (bif (x1 == 12) then (k0 102) else (bif (x1 == 10) then (k0 110) else (bif (x1 == 13) then (k0 114) else (bif (x1 == 9) then (k0 116) else (k0 0)))))))
noncomputable def quote_short {R : Type} : quote_short_ty R := fun x1 k0 => quote_short_X x1 k0
theorem quote_short_ok {R : Type} (x1 : Int) (k : V → Heap → Option R) : funK tt (quote_short_E R) (quote_short_T R) false Tryz.f51 (codeOf Tryz.f51) [.int .i32 x1] [] k =
    quote_short_X x1 (fun q0 => k (.int .u8 q0) []) := by kernel_rfl
theorem quote_short_loops (R : Type) : ∀ a ∈ loopsOf (codeOf Tryz.f51), LoopOk tt (quote_short_E R) (quote_short_T R) 0 a := by
  refine loops_ok 0 (by kernel_rfl) fun i hi => ?_
  omega
theorem quote_short_S_ok (R : Type) (other : Yard.Spec R) (ho : Yard.Spec.Ok Tryz.prog 51 other) : Yard.Spec.Ok Tryz.prog 51 (specBy quote_short_p quote_short_q (quote_short_rr quote_short) other) :=
  specBy_ok ho (funK_sound TT mixed (quote_short_EOk R) (keep := false) rfl rfl rfl rfl 0 (quote_short_loops R)) fun (x : Pat.dens quote_short_p) (y : HPat.dens quote_short_q) k => quote_short_ok x.1 k

/-! ### (*strings.Builder).WriteByte -/
abbrev strings_Builder_WriteByte_4b84_ty (R : Type) : Type := Int → (List Int) → ((List Int) → Option R) → Option R
abbrev strings_Builder_WriteByte_4b84_p : List Pat := [.leaf (.ptr 0 0), .leaf (.int .u8)]
abbrev strings_Builder_WriteByte_4b84_q : List HPat := [.bld (.slo (.int .u8) 1), .tok]
noncomputable def strings_Builder_WriteByte_4b84_rr {R : Type} (fn : strings_Builder_WriteByte_4b84_ty R) : Pat.dens strings_Builder_WriteByte_4b84_p → HPat.dens strings_Builder_WriteByte_4b84_q → (V → Heap → Option R) → Option R := fun x y k => fn x.2.1 y.1 (fun q0 => k (.niliface) [.bld (.sl (.int .u8) q0 (.own 2)), .dead, .tok])
noncomputable def strings_Builder_WriteByte_4b84_E (R : Type) : Env R := fun i => match i with
  | 73 => some (false, (bcc_S R))
  | _ => none
theorem strings_Builder_WriteByte_4b84_EOk (R : Type) : EOk Tryz.prog (strings_Builder_WriteByte_4b84_E R) := by
  intro i b sp h
  unfold strings_Builder_WriteByte_4b84_E at h
  split at h
  · cases h; exact ⟨(bcc_is), fun _ h => nomatch h⟩
  · cases h

noncomputable def strings_Builder_WriteByte_4b84_T (R : Type) : Nat → Option (Hint × LSpec R) := fun i => match i with
  | _ => none

noncomputable def strings_Builder_WriteByte_4b84_X {R : Type} (x1 : Int) (x2 : List Int) (k0 : (List Int) → Option R) : Option R :=
  chk (decide ((x2.length + 1) * 1 ≤ 140737488355328)) (k0 ((x2 : List Int) ++ (([x1] : List Int) : List Int)))
noncomputable def strings_Builder_WriteByte_4b84 {R : Type} : strings_Builder_WriteByte_4b84_ty R := fun x1 x2 k0 => strings_Builder_WriteByte_4b84_X x1 x2 k0
theorem strings_Builder_WriteByte_4b84_ok {R : Type} (x1 : Int) (x2 : List Int) (k : V → Heap → Option R) : funK tt (strings_Builder_WriteByte_4b84_E R) (strings_Builder_WriteByte_4b84_T R) false Tryz.f50 (codeOf Tryz.f50) [.ptr 0 0, .int .u8 x1] [.bld (.sl (.int .u8) x2 (.own 1)), .tok] k =
    strings_Builder_WriteByte_4b84_X x1 x2 (fun q0 => k (.niliface) [.bld (.sl (.int .u8) q0 (.own 2)), .dead, .tok]) := by kernel_rfl
theorem strings_Builder_WriteByte_4b84_loops (R : Type) : ∀ a ∈ loopsOf (codeOf Tryz.f50), LoopOk tt (strings_Builder_WriteByte_4b84_E R) (strings_Builder_WriteByte_4b84_T R) 2 a := by
  refine loops_ok 0 (by kernel_rfl) fun i hi => ?_
  omega
theorem strings_Builder_WriteByte_4b84_S_ok (R : Type) (other : Yard.Spec R) (ho : Yard.Spec.Ok Tryz.prog 50 other) : Yard.Spec.Ok Tryz.prog 50 (specBy strings_Builder_WriteByte_4b84_p strings_Builder_WriteByte_4b84_q (strings_Builder_WriteByte_4b84_rr strings_Builder_WriteByte_4b84) other) :=
  specBy_ok ho (funK_sound TT mixed (strings_Builder_WriteByte_4b84_EOk R) (keep := false) rfl rfl rfl rfl 2 (strings_Builder_WriteByte_4b84_loops R)) fun (x : Pat.dens strings_Builder_WriteByte_4b84_p) (y : HPat.dens strings_Builder_WriteByte_4b84_q) k => strings_Builder_WriteByte_4b84_ok x.2.1 y.1 k

/-! ### (*strings.Builder).WriteString -/
abbrev strings_Builder_WriteString_df1e_ty (R : Type) : Type := Str → (List Int) → (Int → (List Int) → Option R) → Option R
abbrev strings_Builder_WriteString_df1e_p : List Pat := [.leaf (.ptr 0 0), .leaf (.str)]
abbrev strings_Builder_WriteString_df1e_q : List HPat := [.bld (.slo (.int .u8) 1), .tok]
noncomputable def strings_Builder_WriteString_df1e_rr {R : Type} (fn : strings_Builder_WriteString_df1e_ty R) : Pat.dens strings_Builder_WriteString_df1e_p → HPat.dens strings_Builder_WriteString_df1e_q → (V → Heap → Option R) → Option R := fun x y k => fn x.2.1 y.1 (fun q0 q1 => k (.tuple [.int .i64 q0, .niliface]) [.bld (.sl (.int .u8) q1 (.own 2)), .dead, .tok])
noncomputable def strings_Builder_WriteString_df1e_E (R : Type) : Env R := fun i => match i with
  | 73 => some (false, (bcc_S R))
  | _ => none
theorem strings_Builder_WriteString_df1e_EOk (R : Type) : EOk Tryz.prog (strings_Builder_WriteString_df1e_E R) := by
  intro i b sp h
  unfold strings_Builder_WriteString_df1e_E at h
  split at h
  · cases h; exact ⟨(bcc_is), fun _ h => nomatch h⟩
  · cases h

noncomputable def strings_Builder_WriteString_df1e_T (R : Type) : Nat → Option (Hint × LSpec R) := fun i => match i with
  | _ => none

noncomputable def strings_Builder_WriteString_df1e_X {R : Type} (x1 : Str) (x2 : List Int) (k0 : Int → (List Int) → Option R) : Option R :=
  chk (decide ((x2.length + (bytesN x1).length) * 1 ≤ 140737488355328)) (k0 (x1.length : Int) ((x2 : List Int) ++ ((bytesN x1) : List Int)))
noncomputable def strings_Builder_WriteString_df1e {R : Type} : strings_Builder_WriteString_df1e_ty R := fun x1 x2 k0 => strings_Builder_WriteString_df1e_X x1 x2 k0
theorem strings_Builder_WriteString_df1e_ok {R : Type} (x1 : Str) (x2 : List Int) (k : V → Heap → Option R) : funK tt (strings_Builder_WriteString_df1e_E R) (strings_Builder_WriteString_df1e_T R) false Tryz.f52 (codeOf Tryz.f52) [.ptr 0 0, .str x1] [.bld (.sl (.int .u8) x2 (.own 1)), .tok] k =
    strings_Builder_WriteString_df1e_X x1 x2 (fun q0 q1 => k (.tuple [.int .i64 q0, .niliface]) [.bld (.sl (.int .u8) q1 (.own 2)), .dead, .tok]) := by kernel_rfl
theorem strings_Builder_WriteString_df1e_loops (R : Type) : ∀ a ∈ loopsOf (codeOf Tryz.f52), LoopOk tt (strings_Builder_WriteString_df1e_E R) (strings_Builder_WriteString_df1e_T R) 2 a := by
  refine loops_ok 0 (by kernel_rfl) fun i hi => ?_
  omega
theorem strings_Builder_WriteString_df1e_S_ok (R : Type) (other : Yard.Spec R) (ho : Yard.Spec.Ok Tryz.prog 52 other) : Yard.Spec.Ok Tryz.prog 52 (specBy strings_Builder_WriteString_df1e_p strings_Builder_WriteString_df1e_q (strings_Builder_WriteString_df1e_rr strings_Builder_WriteString_df1e) other) :=
  specBy_ok ho (funK_sound TT mixed (strings_Builder_WriteString_df1e_EOk R) (keep := false) rfl rfl rfl rfl 2 (strings_Builder_WriteString_df1e_loops R)) fun (x : Pat.dens strings_Builder_WriteString_df1e_p) (y : HPat.dens strings_Builder_WriteString_df1e_q) k => strings_Builder_WriteString_df1e_ok x.2.1 y.1 k

end Go.Proofs.YtmlkkgfenfdndaaGreatDoor

set_option linter.unusedVariables false
set_option maxRecDepth 100000
namespace Go.Proofs.YtmlkkgfenfdndaaGreatDoor
open Go Go.Yard

def I64 (n : Int) : Prop := -9223372036854775808 ≤ n ∧ n ≤ 9223372036854775807
theorem i64_has {n : Int} : IntKind.i64.has n ↔ I64 n := by
  unfold IntKind.has I64
  simp only [IntKind.min, IntKind.max, IntKind.bits, IntKind.signed]
  simp

theorem pick_raw {R : Type} (c n : Int) (hc : I64 c) (h0 : 0 < n) (hn : n ≤ 9223372036854775807) : ∃ r : Int, 0 ≤ r ∧ r < n ∧ ∀ k : Int → Option R,
    (bif (decide (c < (0 : Int))) then (chk (!decide (n = 0)) (k (Int.tmod (IntKind.i64.wrap (0 - (IntKind.i64.wrap (c + 1)))) n))) else (chk (!decide (n = 0)) (k (Int.tmod c n)))) = k r := by
  obtain ⟨h1, h2⟩ := hc
  have hz : (!decide (n = 0)) = true := by simp; omega
  by_cases h : c < 0
  · refine ⟨Int.tmod (0 - (c + 1)) n, Int.tmod_nonneg _ (by omega), Int.tmod_lt_of_pos _ h0, fun k => ?_⟩
    have hd : decide (c < (0 : Int)) = true := by simpa using h
    rw [hd, cond_true, chk_pos hz, wrap_id (n := c + 1) (by omega) (by omega), wrap_id (by omega) (by omega)]
  · refine ⟨Int.tmod c n, Int.tmod_nonneg _ (by omega), Int.tmod_lt_of_pos _ h0, fun k => ?_⟩
    have hd : decide (c < (0 : Int)) = false := by simpa using h
    rw [hd, cond_false, chk_pos hz]

end Go.Proofs.YtmlkkgfenfdndaaGreatDoor

set_option linter.unusedVariables false
namespace Go.Proofs.YtmlkkgfenfdndaaGreatDoor
open Go Go.Yard

end Go.Proofs.YtmlkkgfenfdndaaGreatDoor

/-
  Functions of the program as pure Lean functions, and the ties; printed by wip/tools/emit.py.
-/
set_option maxRecDepth 100000
set_option linter.unusedVariables false
namespace Go.Proofs.YtmlkkgfenfdndaaGreatDoor
open Go Go.Yard

/-! ### humpyard/lexer.while -/
abbrev lexer_while_ty (R : Type) : Type := Str → Str → (Str → Option R) → Option R
abbrev lexer_while_p : List Pat := [.leaf (.str), .leaf (.str)]
abbrev lexer_while_q : List HPat := []
noncomputable def lexer_while_rr {R : Type} (fn : lexer_while_ty R) : Pat.dens lexer_while_p → HPat.dens lexer_while_q → (V → Heap → Option R) → Option R := fun x y k => fn x.1 x.2.1 (fun q0 => k (.str q0) [])
noncomputable def lexer_while_E (R : Type) : Env R := fun i => match i with
  | 68 => some (true, (trimL_S R))
  | _ => none
theorem lexer_while_EOk (R : Type) : EOk Tryz.prog (lexer_while_E R) := by
  intro i b sp h
  unfold lexer_while_E at h
  split at h
  · cases h; exact ⟨(trimL_ok), fun h => nomatch h⟩
  · cases h

noncomputable def lexer_while_T (R : Type) : Nat → Option (Hint × LSpec R) := fun i => match i with
  | _ => none

noncomputable def lexer_while_X {R : Type} (x1 : Str) (x2 : Str) (k0 : Str → Option R) : Option R :=
  chk (isAsc x2 && decide (x2.length < 4294967281)) (chk (decide ((0 : Int) ≤ (IntKind.i64.wrap ((x1.length : Int) - ((trimL x1 x2).length : Int)))) && decide ((IntKind.i64.wrap ((x1.length : Int) - ((trimL x1 x2).length : Int))) ≤ x1.length)) (chk (decide ((0 : Int) ≤ (IntKind.i64.wrap ((x1.length : Int) - ((trimL x1 x2).length : Int))))) (k0 ((x1.drop 0).take ((IntKind.i64.wrap ((x1.length : Int) - ((trimL x1 x2).length : Int))).toNat - 0)))))
noncomputable def lexer_while {R : Type} : lexer_while_ty R := fun x1 x2 k0 => lexer_while_X x1 x2 k0
theorem lexer_while_ok {R : Type} (x1 : Str) (x2 : Str) (k : V → Heap → Option R) : funK tt (lexer_while_E R) (lexer_while_T R) false Tryz.f47 (codeOf Tryz.f47) [.str x1, .str x2] [] k =
    lexer_while_X x1 x2 (fun q0 => k (.str q0) []) := by kernel_rfl
theorem lexer_while_loops (R : Type) : ∀ a ∈ loopsOf (codeOf Tryz.f47), LoopOk tt (lexer_while_E R) (lexer_while_T R) 0 a := by
  refine loops_ok 0 (by kernel_rfl) fun i hi => ?_
  omega
theorem lexer_while_S_ok (R : Type) (other : Yard.Spec R) (ho : Yard.Spec.Ok Tryz.prog 47 other) : Yard.Spec.Ok Tryz.prog 47 (specBy lexer_while_p lexer_while_q (lexer_while_rr lexer_while) other) :=
  specBy_ok ho (funK_sound TT mixed (lexer_while_EOk R) (keep := false) rfl rfl rfl rfl 0 (lexer_while_loops R)) fun (x : Pat.dens lexer_while_p) (y : HPat.dens lexer_while_q) k => lexer_while_ok x.1 x.2.1 k

/-! ### (*humpyard/decimal.reader).sign -/
abbrev decimal_reader_sign_e74a_ty (R : Type) : Type := Str → Str → (Int → Str → Option R) → Option R
abbrev decimal_reader_sign_e74a_p : List Pat := [.leaf (.ptr 0 0), .leaf (.str)]
abbrev decimal_reader_sign_e74a_q : List HPat := [.cells [.str]]
noncomputable def decimal_reader_sign_e74a_rr {R : Type} (fn : decimal_reader_sign_e74a_ty R) : Pat.dens decimal_reader_sign_e74a_p → HPat.dens decimal_reader_sign_e74a_q → (V → Heap → Option R) → Option R := fun x y k => fn x.2.1 y.1.1 (fun q0 q1 => k (.int .u8 q0) [.cells [.str q1]])
noncomputable def decimal_reader_sign_e74a_E (R : Type) : Env R := fun i => match i with
  | 71 => some (true, (idx_S R))
  | _ => none
theorem decimal_reader_sign_e74a_EOk (R : Type) : EOk Tryz.prog (decimal_reader_sign_e74a_E R) := by
  intro i b sp h
  unfold decimal_reader_sign_e74a_E at h
  split at h
  · cases h; exact ⟨(idx_ok), fun h => nomatch h⟩
  · cases h

noncomputable def decimal_reader_sign_e74a_T (R : Type) : Nat → Option (Hint × LSpec R) := fun i => match i with
  | _ => none

noncomputable def decimal_reader_sign_e74a_X {R : Type} (x1 : Str) (x2 : Str) (k0 : Int → Str → Option R) : Option R :=
  bif (x2 == ([] : Str)) then (k0 0 x2) else (chk (decide ((0 : Int) < x2.length)) (bif (decide ((idxByte x1 ((x2.getD 0 0).toNat : Int)) < (0 : Int))) then (k0 0 x2) else (chk (decide ((0 : Int) < x2.length)) (chk (decide ((0 : Int) ≤ (x2.length : Int)) && decide ((x2.length : Int) ≤ x2.length)) (chk (decide ((1 : Int) ≤ (x2.length : Int))) (k0 ((x2.getD 0 0).toNat : Int) ((x2.drop 1).take ((x2.length : Int).toNat - 1))))))))
noncomputable def decimal_reader_sign_e74a {R : Type} : decimal_reader_sign_e74a_ty R := fun x1 x2 k0 => decimal_reader_sign_e74a_X x1 x2 k0
theorem decimal_reader_sign_e74a_ok {R : Type} (x1 : Str) (x2 : Str) (k : V → Heap → Option R) : funK tt (decimal_reader_sign_e74a_E R) (decimal_reader_sign_e74a_T R) false Tryz.f101 (codeOf Tryz.f101) [.ptr 0 0, .str x1] [.cells [.str x2]] k =
    decimal_reader_sign_e74a_X x1 x2 (fun q0 q1 => k (.int .u8 q0) [.cells [.str q1]]) := by kernel_rfl
theorem decimal_reader_sign_e74a_loops (R : Type) : ∀ a ∈ loopsOf (codeOf Tryz.f101), LoopOk tt (decimal_reader_sign_e74a_E R) (decimal_reader_sign_e74a_T R) 1 a := by
  refine loops_ok 0 (by kernel_rfl) fun i hi => ?_
  omega
theorem decimal_reader_sign_e74a_S_ok (R : Type) (other : Yard.Spec R) (ho : Yard.Spec.Ok Tryz.prog 101 other) : Yard.Spec.Ok Tryz.prog 101 (specBy decimal_reader_sign_e74a_p decimal_reader_sign_e74a_q (decimal_reader_sign_e74a_rr decimal_reader_sign_e74a) other) :=
  specBy_ok ho (funK_sound TT mixed (decimal_reader_sign_e74a_EOk R) (keep := false) rfl rfl rfl rfl 1 (decimal_reader_sign_e74a_loops R)) fun (x : Pat.dens decimal_reader_sign_e74a_p) (y : HPat.dens decimal_reader_sign_e74a_q) k => decimal_reader_sign_e74a_ok x.2.1 y.1.1 k

/-! ### (*humpyard/decimal.reader).digits -/
abbrev decimal_reader_digits_abbd_ty (R : Type) : Type := Str → (Str → Str → Option R) → Option R
abbrev decimal_reader_digits_abbd_p : List Pat := [.leaf (.ptr 0 0)]
abbrev decimal_reader_digits_abbd_q : List HPat := [.cells [.str]]
noncomputable def decimal_reader_digits_abbd_rr {R : Type} (fn : decimal_reader_digits_abbd_ty R) : Pat.dens decimal_reader_digits_abbd_p → HPat.dens decimal_reader_digits_abbd_q → (V → Heap → Option R) → Option R := fun x y k => fn y.1.1 (fun q0 q1 => k (.str q0) [.cells [.str q1]])
noncomputable def decimal_reader_digits_abbd_E (R : Type) : Env R := fun i => match i with
  | 68 => some (true, (trimL_S R))
  | _ => none
theorem decimal_reader_digits_abbd_EOk (R : Type) : EOk Tryz.prog (decimal_reader_digits_abbd_E R) := by
  intro i b sp h
  unfold decimal_reader_digits_abbd_E at h
  split at h
  · cases h; exact ⟨(trimL_ok), fun h => nomatch h⟩
  · cases h

noncomputable def decimal_reader_digits_abbd_T (R : Type) : Nat → Option (Hint × LSpec R) := fun i => match i with
  | _ => none

noncomputable def decimal_reader_digits_abbd_X {R : Type} (x1 : Str) (k0 : Str → Str → Option R) : Option R :=
  chk (isAsc ([48, 49, 50, 51, 52, 53, 54, 55, 56, 57] : Str) && decide (([48, 49, 50, 51, 52, 53, 54, 55, 56, 57] : Str).length < 4294967281)) (chk (decide ((0 : Int) ≤ (IntKind.i64.wrap ((x1.length : Int) - ((trimL x1 ([48, 49, 50, 51, 52, 53, 54, 55, 56, 57] : Str)).length : Int)))) && decide ((IntKind.i64.wrap ((x1.length : Int) - ((trimL x1 ([48, 49, 50, 51, 52, 53, 54, 55, 56, 57] : Str)).length : Int))) ≤ x1.length)) (chk (decide ((0 : Int) ≤ (IntKind.i64.wrap ((x1.length : Int) - ((trimL x1 ([48, 49, 50, 51, 52, 53, 54, 55, 56, 57] : Str)).length : Int))))) (k0 ((x1.drop 0).take ((IntKind.i64.wrap ((x1.length : Int) - ((trimL x1 ([48, 49, 50, 51, 52, 53, 54, 55, 56, 57] : Str)).length : Int))).toNat - 0)) (trimL x1 ([48, 49, 50, 51, 52, 53, 54, 55, 56, 57] : Str)))))
noncomputable def decimal_reader_digits_abbd {R : Type} : decimal_reader_digits_abbd_ty R := fun x1 k0 => decimal_reader_digits_abbd_X x1 k0
theorem decimal_reader_digits_abbd_ok {R : Type} (x1 : Str) (k : V → Heap → Option R) : funK tt (decimal_reader_digits_abbd_E R) (decimal_reader_digits_abbd_T R) false Tryz.f102 (codeOf Tryz.f102) [.ptr 0 0] [.cells [.str x1]] k =
    decimal_reader_digits_abbd_X x1 (fun q0 q1 => k (.str q0) [.cells [.str q1]]) := by kernel_rfl
theorem decimal_reader_digits_abbd_loops (R : Type) : ∀ a ∈ loopsOf (codeOf Tryz.f102), LoopOk tt (decimal_reader_digits_abbd_E R) (decimal_reader_digits_abbd_T R) 1 a := by
  refine loops_ok 0 (by kernel_rfl) fun i hi => ?_
  omega
theorem decimal_reader_digits_abbd_S_ok (R : Type) (other : Yard.Spec R) (ho : Yard.Spec.Ok Tryz.prog 102 other) : Yard.Spec.Ok Tryz.prog 102 (specBy decimal_reader_digits_abbd_p decimal_reader_digits_abbd_q (decimal_reader_digits_abbd_rr decimal_reader_digits_abbd) other) :=
  specBy_ok ho (funK_sound TT mixed (decimal_reader_digits_abbd_EOk R) (keep := false) rfl rfl rfl rfl 1 (decimal_reader_digits_abbd_loops R)) fun (x : Pat.dens decimal_reader_digits_abbd_p) (y : HPat.dens decimal_reader_digits_abbd_q) k => decimal_reader_digits_abbd_ok y.1.1 k

/-! ### (*humpyard/decimal.reader).exponent -/
abbrev decimal_reader_exponent_abbd_ty (R : Type) : Type := Str → (Int → Bool → Str → Option R) → Option R
abbrev decimal_reader_exponent_abbd_p : List Pat := [.leaf (.ptr 0 0)]
abbrev decimal_reader_exponent_abbd_q : List HPat := [.cells [.str]]
noncomputable def decimal_reader_exponent_abbd_rr {R : Type} (fn : decimal_reader_exponent_abbd_ty R) : Pat.dens decimal_reader_exponent_abbd_p → HPat.dens decimal_reader_exponent_abbd_q → (V → Heap → Option R) → Option R := fun x y k => fn y.1.1 (fun q0 q1 q2 => k (.tuple [.int .i64 q0, .bool q1]) [.cells [.str q2]])
noncomputable def decimal_reader_exponent_abbd_E (R : Type) (decimal_reader_sign_e74a : decimal_reader_sign_e74a_ty R) (decimal_reader_digits_abbd : decimal_reader_digits_abbd_ty R) : Env R := fun i => match i with
  | 101 => some (false, (specBy decimal_reader_sign_e74a_p decimal_reader_sign_e74a_q (decimal_reader_sign_e74a_rr decimal_reader_sign_e74a) specNo))
  | 102 => some (false, (specBy decimal_reader_digits_abbd_p decimal_reader_digits_abbd_q (decimal_reader_digits_abbd_rr decimal_reader_digits_abbd) specNo))
  | 105 => some (true, (atoi_S R))
  | _ => none
theorem decimal_reader_exponent_abbd_EOk (R : Type) : EOk Tryz.prog (decimal_reader_exponent_abbd_E R decimal_reader_sign_e74a decimal_reader_digits_abbd) := by
  intro i b sp h
  unfold decimal_reader_exponent_abbd_E at h
  split at h
  · cases h; exact ⟨(decimal_reader_sign_e74a_S_ok R _ (specNo_ok _)), fun _ h => nomatch h⟩
  · cases h; exact ⟨(decimal_reader_digits_abbd_S_ok R _ (specNo_ok _)), fun _ h => nomatch h⟩
  · cases h; exact ⟨(atoi_ok), fun h => nomatch h⟩
  · cases h

noncomputable def decimal_reader_exponent_abbd_T (R : Type) : Nat → Option (Hint × LSpec R) := fun i => match i with
  | _ => none

noncomputable def decimal_reader_exponent_abbd_X {R : Type} (decimal_reader_sign_e74a : decimal_reader_sign_e74a_ty R) (decimal_reader_digits_abbd : decimal_reader_digits_abbd_ty R) (x1 : Str) (k0 : Int → Bool → Str → Option R) : Option R :=
  decimal_reader_sign_e74a ([43, 45] : Str) x1 (fun y2 y3 => decimal_reader_digits_abbd y3 (fun y4 y5 => chk (decide (y4.length ≤ 281474976710656)) (bif atoiOk y4 then (bif (decide ((atoiVal y4) > (1000000 : Int))) then (bif (y2 == 45) then (k0 (-1000000) (!(y4 == ([] : Str))) y5) else (k0 1000000 (!(y4 == ([] : Str))) y5)) else (bif (y2 == 45) then (k0 (IntKind.i64.wrap (0 - (atoiVal y4))) (!(y4 == ([] : Str))) y5) else (k0 (atoiVal y4) (!(y4 == ([] : Str))) y5))) else (bif (!(y4 == ([] : Str))) then (bif (y2 == 45) then (k0 (-1000000) (!(y4 == ([] : Str))) y5) else (k0 1000000 (!(y4 == ([] : Str))) y5)) else (bif (decide ((atoiVal y4) > (1000000 : Int))) then (bif (y2 == 45) then (k0 (-1000000) (!(y4 == ([] : Str))) y5) else (k0 1000000 (!(y4 == ([] : Str))) y5)) else (bif (y2 == 45) then (k0 (IntKind.i64.wrap (0 - (atoiVal y4))) (!(y4 == ([] : Str))) y5) else (k0 (atoiVal y4) (!(y4 == ([] : Str))) y5)))))))
noncomputable def decimal_reader_exponent_abbd {R : Type} : decimal_reader_exponent_abbd_ty R := fun x1 k0 => decimal_reader_exponent_abbd_X decimal_reader_sign_e74a decimal_reader_digits_abbd x1 k0
theorem decimal_reader_exponent_abbd_ok {R : Type} (decimal_reader_sign_e74a : decimal_reader_sign_e74a_ty R) (decimal_reader_digits_abbd : decimal_reader_digits_abbd_ty R) (x1 : Str) (k : V → Heap → Option R) : funK tt (decimal_reader_exponent_abbd_E R decimal_reader_sign_e74a decimal_reader_digits_abbd) (decimal_reader_exponent_abbd_T R) false Tryz.f103 (codeOf Tryz.f103) [.ptr 0 0] [.cells [.str x1]] k =
    decimal_reader_exponent_abbd_X decimal_reader_sign_e74a decimal_reader_digits_abbd x1 (fun q0 q1 q2 => k (.tuple [.int .i64 q0, .bool q1]) [.cells [.str q2]]) := by kernel_rfl
theorem decimal_reader_exponent_abbd_loops (R : Type) : ∀ a ∈ loopsOf (codeOf Tryz.f103), LoopOk tt (decimal_reader_exponent_abbd_E R decimal_reader_sign_e74a decimal_reader_digits_abbd) (decimal_reader_exponent_abbd_T R) 1 a := by
  refine loops_ok 0 (by kernel_rfl) fun i hi => ?_
  omega
theorem decimal_reader_exponent_abbd_S_ok (R : Type) (other : Yard.Spec R) (ho : Yard.Spec.Ok Tryz.prog 103 other) : Yard.Spec.Ok Tryz.prog 103 (specBy decimal_reader_exponent_abbd_p decimal_reader_exponent_abbd_q (decimal_reader_exponent_abbd_rr decimal_reader_exponent_abbd) other) :=
  specBy_ok ho (funK_sound TT mixed (decimal_reader_exponent_abbd_EOk R) (keep := false) rfl rfl rfl rfl 1 (decimal_reader_exponent_abbd_loops R)) fun (x : Pat.dens decimal_reader_exponent_abbd_p) (y : HPat.dens decimal_reader_exponent_abbd_q) k => decimal_reader_exponent_abbd_ok decimal_reader_sign_e74a decimal_reader_digits_abbd y.1.1 k

/-! ### humpyard/decimal.within[int] -/
abbrev decimal_within_int_ty (R : Type) : Type := Int → Int → Int → (Bool → Option R) → Option R
abbrev decimal_within_int_p : List Pat := [.leaf (.int .i64), .leaf (.int .i64), .leaf (.int .i64)]
abbrev decimal_within_int_q : List HPat := []
noncomputable def decimal_within_int_rr {R : Type} (fn : decimal_within_int_ty R) : Pat.dens decimal_within_int_p → HPat.dens decimal_within_int_q → (V → Heap → Option R) → Option R := fun x y k => fn x.1 x.2.1 x.2.2.1 (fun q0 => k (.bool q0) [])
noncomputable def decimal_within_int_E (R : Type) : Env R := fun i => match i with
  | _ => none
theorem decimal_within_int_EOk (R : Type) : EOk Tryz.prog (decimal_within_int_E R) := by
  intro i b sp h
  unfold decimal_within_int_E at h
  split at h
  · cases h

noncomputable def decimal_within_int_T (R : Type) : Nat → Option (Hint × LSpec R) := fun i => match i with
  | _ => none

noncomputable def decimal_within_int_X {R : Type} (x1 : Int) (x2 : Int) (x3 : Int) (k0 : Bool → Option R) : Option R :=
  bif (decide (x1 ≤ x2)) then (k0 (decide (x2 ≤ x3))) else (k0 false)
noncomputable def decimal_within_int {R : Type} : decimal_within_int_ty R := fun x1 x2 x3 k0 => decimal_within_int_X x1 x2 x3 k0
theorem decimal_within_int_ok {R : Type} (x1 : Int) (x2 : Int) (x3 : Int) (k : V → Heap → Option R) : funK tt (decimal_within_int_E R) (decimal_within_int_T R) false Tryz.f91 (codeOf Tryz.f91) [.int .i64 x1, .int .i64 x2, .int .i64 x3] [] k =
    decimal_within_int_X x1 x2 x3 (fun q0 => k (.bool q0) []) := by kernel_rfl
theorem decimal_within_int_loops (R : Type) : ∀ a ∈ loopsOf (codeOf Tryz.f91), LoopOk tt (decimal_within_int_E R) (decimal_within_int_T R) 0 a := by
  refine loops_ok 0 (by kernel_rfl) fun i hi => ?_
  omega
theorem decimal_within_int_S_ok (R : Type) (other : Yard.Spec R) (ho : Yard.Spec.Ok Tryz.prog 91 other) : Yard.Spec.Ok Tryz.prog 91 (specBy decimal_within_int_p decimal_within_int_q (decimal_within_int_rr decimal_within_int) other) :=
  specBy_ok ho (funK_sound TT mixed (decimal_within_int_EOk R) (keep := false) rfl rfl rfl rfl 0 (decimal_within_int_loops R)) fun (x : Pat.dens decimal_within_int_p) (y : HPat.dens decimal_within_int_q) k => decimal_within_int_ok x.1 x.2.1 x.2.2.1 k

/-! ### humpyard/decimal.Make -/
abbrev decimal_Make_ty (R : Type) : Type := Int → Int → (Dcm → Bool → Option R) → Option R
abbrev decimal_Make_p : List Pat := [.leaf (.int .i64), .leaf (.int .i64)]
abbrev decimal_Make_q : List HPat := []
noncomputable def decimal_Make_rr {R : Type} (fn : decimal_Make_ty R) : Pat.dens decimal_Make_p → HPat.dens decimal_Make_q → (V → Heap → Option R) → Option R := fun x y k => fn x.1 x.2.1 (fun q0 q1 => k (.tuple [.agg [.int .i64 q0.mant, .int .i64 q0.exp], .bool q1]) [])
abbrev decimal_Make_4_0_ty (R : Type) : Type := Nat → Int → Int → Dcm → (Int → Int → Dcm → Option R) → Option R
noncomputable def decimal_Make_E (R : Type) (decimal_within_int : decimal_within_int_ty R) : Env R := fun i => match i with
  | 91 => some (true, (specBy decimal_within_int_p decimal_within_int_q (decimal_within_int_rr decimal_within_int) specNo))
  | _ => none
theorem decimal_Make_EOk (R : Type) : EOk Tryz.prog (decimal_Make_E R decimal_within_int) := by
  intro i b sp h
  unfold decimal_Make_E at h
  split at h
  · cases h; exact ⟨(decimal_within_int_S_ok R _ (specNo_ok _)), fun h => nomatch h⟩
  · cases h

noncomputable def decimal_Make_4_0_B {R : Type} (rec' : Int → Int → Dcm → Option R) (x3 : Int) (x4 : Int) (x5 : Dcm) (e0 : Int → Int → Dcm → Option R) : Option R :=
  bif ((Int.tmod x3 10) == 0) then (rec' (IntKind.i64.wrap (Int.tdiv x3 10)) (IntKind.i64.wrap (x4 + 1)) x5) else (e0 x3 x4 x5)
noncomputable def decimal_Make_4_0_L {R : Type} : decimal_Make_4_0_ty R
  | 0, _, _, _, _ => none
  | n + 1, x0', x1', x2', e0 => decimal_Make_4_0_B (fun x0' x1' x2' => decimal_Make_4_0_L n x0' x1' x2' e0) x0' x1' x2' e0
noncomputable def decimal_Make_4_0_h : Hint := { live := [0, 1, 4], own := [], rows := [], cells := [], drop := [], out := [0, 1, 4, 5] }
abbrev decimal_Make_4_0_D : Type := Int × Int × Dcm
noncomputable def decimal_Make_4_0_enc : decimal_Make_4_0_D → St := fun d => ⟨[.int .i64 d.1, .int .i64 d.2.1, .undef, .undef, .ptr 0 0, .undef, .undef, .undef, .undef, .undef, .undef, .undef, .undef, .undef, .undef, .undef, .undef, .undef, .undef, .undef, .undef, .undef, .undef, .undef, .undef, .undef, .undef, .undef, .undef, .undef], [.cells [.int .i64 d.2.2.mant, .int .i64 d.2.2.exp]]⟩
noncomputable def decimal_Make_4_0_x0 {R : Type} (K : Ex → St → Option R) (q0 : Int) (q1 : Int) (q2 : Dcm) : Option R := K (.exit 0) ⟨[.int .i64 q0, .int .i64 q1, .undef, .undef, .ptr 0 0, .undef, .undef, .undef, .undef, .undef, .undef, .undef, .undef, .undef, .undef, .undef, .undef, .undef, .undef, .undef, .undef, .undef, .undef, .undef, .undef, .undef, .undef, .undef, .undef, .undef], [.cells [.int .i64 q2.mant, .int .i64 q2.exp]]⟩
noncomputable def decimal_Make_4_0_s {R : Type} (K : Ex → St → Option R) (rc : decimal_Make_4_0_D → Option R) (d : decimal_Make_4_0_D) : Option R := decimal_Make_4_0_B (fun z0 z1 z2 => rc (z0, z1, z2)) d.1 d.2.1 d.2.2 (decimal_Make_4_0_x0 K)
noncomputable def decimal_Make_4_0_A {R : Type} (K : Ex → St → Option R) (n : Nat) (d : decimal_Make_4_0_D) : Option R := decimal_Make_4_0_L n d.1 d.2.1 d.2.2 (decimal_Make_4_0_x0 K)
abbrev decimal_Make_4_0_p : List Pat := [.leaf (.int .i64), .leaf (.int .i64), .leaf (.undef), .leaf (.undef), .leaf (.ptr 0 0), .leaf (.undef), .leaf (.undef), .leaf (.undef), .leaf (.undef), .leaf (.undef), .leaf (.undef), .leaf (.undef), .leaf (.undef), .leaf (.undef), .leaf (.undef), .leaf (.undef), .leaf (.undef), .leaf (.undef), .leaf (.undef), .leaf (.undef), .leaf (.undef), .leaf (.undef), .leaf (.undef), .leaf (.undef), .leaf (.undef), .leaf (.undef), .leaf (.undef), .leaf (.undef), .leaf (.undef), .leaf (.undef)]
abbrev decimal_Make_4_0_q : List HPat := [.cells [.int .i64, .int .i64]]
noncomputable def decimal_Make_4_0_f (x : Pat.dens decimal_Make_4_0_p) (y : HPat.dens decimal_Make_4_0_q) : Nat := (Int.natAbs x.1 + Int.natAbs x.2.1 + Dcm.fu (⟨y.1.1, y.1.2.1⟩ : Dcm) + 64)
noncomputable def decimal_Make_4_0_d (x : Pat.dens decimal_Make_4_0_p) (y : HPat.dens decimal_Make_4_0_q) : decimal_Make_4_0_D := (x.1, x.2.1, (⟨y.1.1, y.1.2.1⟩ : Dcm))
noncomputable def decimal_Make_4_0_rr {R : Type} (L : decimal_Make_4_0_ty R) : Pat.dens decimal_Make_4_0_p → HPat.dens decimal_Make_4_0_q → (Ex → St → Option R) → Option R := fun x y K => L (decimal_Make_4_0_f x y) x.1 x.2.1 (⟨y.1.1, y.1.2.1⟩ : Dcm) (decimal_Make_4_0_x0 K)
noncomputable def decimal_Make_T (R : Type) (decimal_Make_4_0_L : decimal_Make_4_0_ty R) : Nat → Option (Hint × LSpec R) := fun i => match i with
  | 4 => some (decimal_Make_4_0_h, (loopBy decimal_Make_4_0_p decimal_Make_4_0_q (decimal_Make_4_0_rr decimal_Make_4_0_L) loopNo))
  | _ => none

theorem decimal_Make_4_0_B_ok {R : Type} (decimal_within_int : decimal_within_int_ty R) (decimal_Make_4_0_L : decimal_Make_4_0_ty R) (K : Ex → St → Option R) (rc : St → Option R) (d : decimal_Make_4_0_D) : roundOf tt (decimal_Make_E R decimal_within_int) (decimal_Make_T R decimal_Make_4_0_L) 0 ((loopsOf (codeOf Tryz.f106)).getD 0 .skip) decimal_Make_4_0_h (decimal_Make_4_0_enc d) rc K = decimal_Make_4_0_s K (fun d => rc (decimal_Make_4_0_enc d)) d := by kernel_rfl
theorem decimal_Make_4_0_A_succ {R : Type} (K : Ex → St → Option R) (n : Nat) (d : decimal_Make_4_0_D) : decimal_Make_4_0_A K (n + 1) d = decimal_Make_4_0_s K (decimal_Make_4_0_A K n) d := by kernel_rfl
theorem decimal_Make_4_0_A_zero {R : Type} (K : Ex → St → Option R) (d : decimal_Make_4_0_D) : decimal_Make_4_0_A K 0 d = none := by kernel_rfl
theorem decimal_Make_4_0_e_ok (x : Pat.dens decimal_Make_4_0_p) (y : HPat.dens decimal_Make_4_0_q) : (⟨Pat.encL decimal_Make_4_0_p x, HPat.encL decimal_Make_4_0_q y⟩ : St) = decimal_Make_4_0_enc (decimal_Make_4_0_d x y) := by kernel_rfl
theorem decimal_Make_4_0_r_ok {R : Type} (x : Pat.dens decimal_Make_4_0_p) (y : HPat.dens decimal_Make_4_0_q) (K : Ex → St → Option R) : decimal_Make_4_0_rr (decimal_Make_4_0_L) x y K = decimal_Make_4_0_A K (decimal_Make_4_0_f x y) (decimal_Make_4_0_d x y) := by kernel_rfl
theorem decimal_Make_4_0_ok {R : Type} (other : LSpec R) (ho : LsOk tt (decimal_Make_E R decimal_within_int) (decimal_Make_T R decimal_Make_4_0_L) 0 ((loopsOf (codeOf Tryz.f106)).getD 0 .skip) decimal_Make_4_0_h other) : LsOk tt (decimal_Make_E R decimal_within_int) (decimal_Make_T R decimal_Make_4_0_L) 0 ((loopsOf (codeOf Tryz.f106)).getD 0 .skip) decimal_Make_4_0_h (loopBy decimal_Make_4_0_p decimal_Make_4_0_q (decimal_Make_4_0_rr (decimal_Make_4_0_L)) other) :=
  loopBy_tie (A := decimal_Make_4_0_A) ho (loop_tie decimal_Make_4_0_enc (decimal_Make_4_0_s) (decimal_Make_4_0_A) (decimal_Make_4_0_A_zero) (decimal_Make_4_0_B_ok decimal_within_int decimal_Make_4_0_L) (decimal_Make_4_0_A_succ)) decimal_Make_4_0_f decimal_Make_4_0_d decimal_Make_4_0_e_ok (decimal_Make_4_0_r_ok)

noncomputable def decimal_Make_X {R : Type} (decimal_within_int : decimal_within_int_ty R) (decimal_Make_4_0_L : decimal_Make_4_0_ty R) (x1 : Int) (x2 : Int) (k0 : Dcm → Bool → Option R) : Option R :=
  bif (x1 == 0) then (k0 (⟨0, 0⟩ : Dcm) true) else (decimal_Make_4_0_L (Int.natAbs x1 + Int.natAbs (min x2 1000000) + Dcm.fu (⟨0, 0⟩ : Dcm) + 64) x1 (min x2 1000000) (⟨0, 0⟩ : Dcm) (fun y6 y7 y8 => decimal_within_int (-1000000000000000) y6 1000000000000000 (fun y9 => bif (!y9) then (k0 (⟨0, 0⟩ : Dcm) false) else (decimal_within_int (-9) y7 9 (fun y10 => bif (!y10) then (k0 (⟨0, 0⟩ : Dcm) false) else (k0 (⟨y6, y7⟩ : Dcm) true))))))
noncomputable def decimal_Make {R : Type} : decimal_Make_ty R := fun x1 x2 k0 => decimal_Make_X decimal_within_int decimal_Make_4_0_L x1 x2 k0
theorem decimal_Make_ok {R : Type} (decimal_within_int : decimal_within_int_ty R) (decimal_Make_4_0_L : decimal_Make_4_0_ty R) (x1 : Int) (x2 : Int) (k : V → Heap → Option R) : funK tt (decimal_Make_E R decimal_within_int) (decimal_Make_T R decimal_Make_4_0_L) false Tryz.f106 (codeOf Tryz.f106) [.int .i64 x1, .int .i64 x2] [] k =
    decimal_Make_X decimal_within_int decimal_Make_4_0_L x1 x2 (fun q0 q1 => k (.tuple [.agg [.int .i64 q0.mant, .int .i64 q0.exp], .bool q1]) []) := by kernel_rfl
theorem decimal_Make_loops (R : Type) : ∀ a ∈ loopsOf (codeOf Tryz.f106), LoopOk tt (decimal_Make_E R decimal_within_int) (decimal_Make_T R decimal_Make_4_0_L) 0 a := by
  refine loops_ok 1 (by kernel_rfl) fun i hi => ?_
  match i, hi with
  | 0, _ => exact loopOk_some (by kernel_rfl) (decimal_Make_4_0_ok _ loopNo_ok)
  | n + 1, hi => omega
theorem decimal_Make_S_ok (R : Type) (other : Yard.Spec R) (ho : Yard.Spec.Ok Tryz.prog 106 other) : Yard.Spec.Ok Tryz.prog 106 (specBy decimal_Make_p decimal_Make_q (decimal_Make_rr decimal_Make) other) :=
  specBy_ok ho (funK_sound TT mixed (decimal_Make_EOk R) (keep := false) rfl rfl rfl rfl 0 (decimal_Make_loops R)) fun (x : Pat.dens decimal_Make_p) (y : HPat.dens decimal_Make_q) k => decimal_Make_ok decimal_within_int decimal_Make_4_0_L x.1 x.2.1 k

/-! ### humpyard/decimal.Parse -/
abbrev decimal_Parse_ty (R : Type) : Type := Str → (Dcm → Bool → Option R) → Option R
abbrev decimal_Parse_p : List Pat := [.leaf (.str)]
abbrev decimal_Parse_q : List HPat := []
noncomputable def decimal_Parse_rr {R : Type} (fn : decimal_Parse_ty R) : Pat.dens decimal_Parse_p → HPat.dens decimal_Parse_q → (V → Heap → Option R) → Option R := fun x y k => fn x.1 (fun q0 q1 => k (.tuple [.agg [.int .i64 q0.mant, .int .i64 q0.exp], .bool q1]) [])
noncomputable def decimal_Parse_E (R : Type) (decimal_Make : decimal_Make_ty R) (decimal_reader_sign_e74a : decimal_reader_sign_e74a_ty R) (decimal_reader_digits_abbd : decimal_reader_digits_abbd_ty R) (decimal_reader_exponent_abbd : decimal_reader_exponent_abbd_ty R) : Env R := fun i => match i with
  | 106 => some (true, (specBy decimal_Make_p decimal_Make_q (decimal_Make_rr decimal_Make) specNo))
  | 101 => some (false, (specBy decimal_reader_sign_e74a_p decimal_reader_sign_e74a_q (decimal_reader_sign_e74a_rr decimal_reader_sign_e74a) specNo))
  | 102 => some (false, (specBy decimal_reader_digits_abbd_p decimal_reader_digits_abbd_q (decimal_reader_digits_abbd_rr decimal_reader_digits_abbd) specNo))
  | 103 => some (false, (specBy decimal_reader_exponent_abbd_p decimal_reader_exponent_abbd_q (decimal_reader_exponent_abbd_rr decimal_reader_exponent_abbd) specNo))
  | 68 => some (true, (trimL_S R))
  | 104 => some (true, (trimR_S R))
  | 105 => some (true, (atoi_S R))
  | _ => none
theorem decimal_Parse_EOk (R : Type) : EOk Tryz.prog (decimal_Parse_E R decimal_Make decimal_reader_sign_e74a decimal_reader_digits_abbd decimal_reader_exponent_abbd) := by
  intro i b sp h
  unfold decimal_Parse_E at h
  split at h
  · cases h; exact ⟨(decimal_Make_S_ok R _ (specNo_ok _)), fun h => nomatch h⟩
  · cases h; exact ⟨(decimal_reader_sign_e74a_S_ok R _ (specNo_ok _)), fun _ h => nomatch h⟩
  · cases h; exact ⟨(decimal_reader_digits_abbd_S_ok R _ (specNo_ok _)), fun _ h => nomatch h⟩
  · cases h; exact ⟨(decimal_reader_exponent_abbd_S_ok R _ (specNo_ok _)), fun _ h => nomatch h⟩
  · cases h; exact ⟨(trimL_ok), fun h => nomatch h⟩
  · cases h; exact ⟨(trimR_ok), fun h => nomatch h⟩
  · cases h; exact ⟨(atoi_ok), fun h => nomatch h⟩
  · cases h

noncomputable def decimal_Parse_T (R : Type) : Nat → Option (Hint × LSpec R) := fun i => match i with
  | _ => none

noncomputable def decimal_Parse_X {R : Type} (decimal_Make : decimal_Make_ty R) (decimal_reader_sign_e74a : decimal_reader_sign_e74a_ty R) (decimal_reader_digits_abbd : decimal_reader_digits_abbd_ty R) (decimal_reader_exponent_abbd : decimal_reader_exponent_abbd_ty R) (x1 : Str) (k0 : Dcm → Bool → Option R) : Option R :=
  decimal_reader_sign_e74a ([45] : Str) x1 (fun y2 y3 => decimal_reader_digits_abbd y3 (fun y4 y5 => let j32 := let j31 := fun (z11 : Str) (z12 : Int) (z13 : Str) => let j30 := fun (z19 : Int) (z20 : Str) => chk (isAsc ([48] : Str) && decide (([48] : Str).length < 4294967281)) (chk (isAsc ([48] : Str) && decide (([48] : Str).length < 4294967281)) (bif (!(z20 == ([] : Str))) then (k0 (⟨0, 0⟩ : Dcm) false) else (bif (decide (((trimR (trimL z11 ([48] : Str)) ([48] : Str)).length : Int) > (18 : Int))) then (k0 (⟨0, 0⟩ : Dcm) false) else (let j29 := bif (y2 != 0) then (decimal_Make (IntKind.i64.wrap (0 - (atoiVal (([48] : Str) ++ (trimR (trimL z11 ([48] : Str)) ([48] : Str)))))) (IntKind.i64.wrap (z19 + (IntKind.i64.wrap (((trimL z11 ([48] : Str)).length : Int) - ((trimR (trimL z11 ([48] : Str)) ([48] : Str)).length : Int))))) (fun y25 y26 => k0 y25 y26)) else (decimal_Make (atoiVal (([48] : Str) ++ (trimR (trimL z11 ([48] : Str)) ([48] : Str)))) (IntKind.i64.wrap (z19 + (IntKind.i64.wrap (((trimL z11 ([48] : Str)).length : Int) - ((trimR (trimL z11 ([48] : Str)) ([48] : Str)).length : Int))))) (fun y27 y28 => k0 y27 y28)); chk (decide (1 + (trimR (trimL z11 ([48] : Str)) ([48] : Str)).length ≤ 9223372036854775807)) (chk (decide ((([48] : Str) ++ (trimR (trimL z11 ([48] : Str)) ([48] : Str))).length ≤ 281474976710656)) (bif atoiOk (([48] : Str) ++ (trimR (trimL z11 ([48] : Str)) ([48] : Str))) then (j29) else (j29))))))); decimal_reader_sign_e74a ([101, 69] : Str) z13 (fun y14 y15 => bif (y14 != 0) then (decimal_reader_exponent_abbd y15 (fun y16 y17 y18 => bif (!y17) then (k0 (⟨0, 0⟩ : Dcm) false) else (j30 (IntKind.i64.wrap (z12 + y16)) y18))) else (j30 z12 y15)); decimal_reader_sign_e74a ([46] : Str) y5 (fun y7 y8 => bif (y7 != 0) then (decimal_reader_digits_abbd y8 (fun y9 y10 => bif (y9 == ([] : Str)) then (k0 (⟨0, 0⟩ : Dcm) false) else (chk (decide (y4.length + y9.length ≤ 9223372036854775807)) (j31 (y4 ++ y9) (IntKind.i64.wrap (0 - (y9.length : Int))) y10)))) else (j31 y4 0 y8)); bif (decide ((x1.length : Int) > (400 : Int))) then (k0 (⟨0, 0⟩ : Dcm) false) else (bif (y4 == ([] : Str)) then (k0 (⟨0, 0⟩ : Dcm) false) else (bif (decide ((y4.length : Int) > (1 : Int))) then (chk (decide ((0 : Int) < y4.length)) (bif (((y4.getD 0 0).toNat : Int) == 48) then (k0 (⟨0, 0⟩ : Dcm) false) else (j32))) else (j32)))))
noncomputable def decimal_Parse {R : Type} : decimal_Parse_ty R := fun x1 k0 => decimal_Parse_X decimal_Make decimal_reader_sign_e74a decimal_reader_digits_abbd decimal_reader_exponent_abbd x1 k0
theorem decimal_Parse_ok {R : Type} (decimal_Make : decimal_Make_ty R) (decimal_reader_sign_e74a : decimal_reader_sign_e74a_ty R) (decimal_reader_digits_abbd : decimal_reader_digits_abbd_ty R) (decimal_reader_exponent_abbd : decimal_reader_exponent_abbd_ty R) (x1 : Str) (k : V → Heap → Option R) : funK tt (decimal_Parse_E R decimal_Make decimal_reader_sign_e74a decimal_reader_digits_abbd decimal_reader_exponent_abbd) (decimal_Parse_T R) false Tryz.f69 (codeOf Tryz.f69) [.str x1] [] k =
    decimal_Parse_X decimal_Make decimal_reader_sign_e74a decimal_reader_digits_abbd decimal_reader_exponent_abbd x1 (fun q0 q1 => k (.tuple [.agg [.int .i64 q0.mant, .int .i64 q0.exp], .bool q1]) []) := by kernel_rfl
theorem decimal_Parse_loops (R : Type) : ∀ a ∈ loopsOf (codeOf Tryz.f69), LoopOk tt (decimal_Parse_E R decimal_Make decimal_reader_sign_e74a decimal_reader_digits_abbd decimal_reader_exponent_abbd) (decimal_Parse_T R) 0 a := by
  refine loops_ok 0 (by kernel_rfl) fun i hi => ?_
  omega
theorem decimal_Parse_S_ok (R : Type) (other : Yard.Spec R) (ho : Yard.Spec.Ok Tryz.prog 69 other) : Yard.Spec.Ok Tryz.prog 69 (specBy decimal_Parse_p decimal_Parse_q (decimal_Parse_rr decimal_Parse) other) :=
  specBy_ok ho (funK_sound TT mixed (decimal_Parse_EOk R) (keep := false) rfl rfl rfl rfl 0 (decimal_Parse_loops R)) fun (x : Pat.dens decimal_Parse_p) (y : HPat.dens decimal_Parse_q) k => decimal_Parse_ok decimal_Make decimal_reader_sign_e74a decimal_reader_digits_abbd decimal_reader_exponent_abbd x.1 k

/-! ### internal/stringslite.HasPrefix -/
abbrev internal_stringslite_HasPrefix_ty (R : Type) : Type := Str → Str → (Bool → Option R) → Option R
abbrev internal_stringslite_HasPrefix_p : List Pat := [.leaf (.str), .leaf (.str)]
abbrev internal_stringslite_HasPrefix_q : List HPat := []
noncomputable def internal_stringslite_HasPrefix_rr {R : Type} (fn : internal_stringslite_HasPrefix_ty R) : Pat.dens internal_stringslite_HasPrefix_p → HPat.dens internal_stringslite_HasPrefix_q → (V → Heap → Option R) → Option R := fun x y k => fn x.1 x.2.1 (fun q0 => k (.bool q0) [])
noncomputable def internal_stringslite_HasPrefix_E (R : Type) : Env R := fun i => match i with
  | _ => none
theorem internal_stringslite_HasPrefix_EOk (R : Type) : EOk Tryz.prog (internal_stringslite_HasPrefix_E R) := by
  intro i b sp h
  unfold internal_stringslite_HasPrefix_E at h
  split at h
  · cases h

noncomputable def internal_stringslite_HasPrefix_T (R : Type) : Nat → Option (Hint × LSpec R) := fun i => match i with
  | _ => none

noncomputable def internal_stringslite_HasPrefix_X {R : Type} (x1 : Str) (x2 : Str) (k0 : Bool → Option R) : Option R :=
  bif (decide ((x1.length : Int) ≥ (x2.length : Int))) then (chk (decide ((0 : Int) ≤ (x2.length : Int)) && decide ((x2.length : Int) ≤ x1.length)) (chk (decide ((0 : Int) ≤ (x2.length : Int))) (k0 (((x1.drop 0).take ((x2.length : Int).toNat - 0)) == x2)))) else (k0 false)
noncomputable def internal_stringslite_HasPrefix {R : Type} : internal_stringslite_HasPrefix_ty R := fun x1 x2 k0 => internal_stringslite_HasPrefix_X x1 x2 k0
theorem internal_stringslite_HasPrefix_ok {R : Type} (x1 : Str) (x2 : Str) (k : V → Heap → Option R) : funK tt (internal_stringslite_HasPrefix_E R) (internal_stringslite_HasPrefix_T R) false Tryz.f127 (codeOf Tryz.f127) [.str x1, .str x2] [] k =
    internal_stringslite_HasPrefix_X x1 x2 (fun q0 => k (.bool q0) []) := by kernel_rfl
theorem internal_stringslite_HasPrefix_loops (R : Type) : ∀ a ∈ loopsOf (codeOf Tryz.f127), LoopOk tt (internal_stringslite_HasPrefix_E R) (internal_stringslite_HasPrefix_T R) 0 a := by
  refine loops_ok 0 (by kernel_rfl) fun i hi => ?_
  omega
theorem internal_stringslite_HasPrefix_S_ok (R : Type) (other : Yard.Spec R) (ho : Yard.Spec.Ok Tryz.prog 127 other) : Yard.Spec.Ok Tryz.prog 127 (specBy internal_stringslite_HasPrefix_p internal_stringslite_HasPrefix_q (internal_stringslite_HasPrefix_rr internal_stringslite_HasPrefix) other) :=
  specBy_ok ho (funK_sound TT mixed (internal_stringslite_HasPrefix_EOk R) (keep := false) rfl rfl rfl rfl 0 (internal_stringslite_HasPrefix_loops R)) fun (x : Pat.dens internal_stringslite_HasPrefix_p) (y : HPat.dens internal_stringslite_HasPrefix_q) k => internal_stringslite_HasPrefix_ok x.1 x.2.1 k

/-! ### internal/stringslite.CutPrefix -/
abbrev internal_stringslite_CutPrefix_ty (R : Type) : Type := Str → Str → (Str → Bool → Option R) → Option R
abbrev internal_stringslite_CutPrefix_p : List Pat := [.leaf (.str), .leaf (.str)]
abbrev internal_stringslite_CutPrefix_q : List HPat := []
noncomputable def internal_stringslite_CutPrefix_rr {R : Type} (fn : internal_stringslite_CutPrefix_ty R) : Pat.dens internal_stringslite_CutPrefix_p → HPat.dens internal_stringslite_CutPrefix_q → (V → Heap → Option R) → Option R := fun x y k => fn x.1 x.2.1 (fun q0 q1 => k (.tuple [.str q0, .bool q1]) [])
noncomputable def internal_stringslite_CutPrefix_E (R : Type) (internal_stringslite_HasPrefix : internal_stringslite_HasPrefix_ty R) : Env R := fun i => match i with
  | 127 => some (true, (specBy internal_stringslite_HasPrefix_p internal_stringslite_HasPrefix_q (internal_stringslite_HasPrefix_rr internal_stringslite_HasPrefix) specNo))
  | _ => none
theorem internal_stringslite_CutPrefix_EOk (R : Type) : EOk Tryz.prog (internal_stringslite_CutPrefix_E R internal_stringslite_HasPrefix) := by
  intro i b sp h
  unfold internal_stringslite_CutPrefix_E at h
  split at h
  · cases h; exact ⟨(internal_stringslite_HasPrefix_S_ok R _ (specNo_ok _)), fun h => nomatch h⟩
  · cases h

noncomputable def internal_stringslite_CutPrefix_T (R : Type) : Nat → Option (Hint × LSpec R) := fun i => match i with
  | _ => none

noncomputable def internal_stringslite_CutPrefix_X {R : Type} (internal_stringslite_HasPrefix : internal_stringslite_HasPrefix_ty R) (x1 : Str) (x2 : Str) (k0 : Str → Bool → Option R) : Option R :=
  internal_stringslite_HasPrefix x1 x2 (fun y3 => bif (!y3) then (k0 x1 false) else (chk (decide ((0 : Int) ≤ (x1.length : Int)) && decide ((x1.length : Int) ≤ x1.length)) (chk (decide ((0 : Int) ≤ (x2.length : Int)) && decide ((x2.length : Int) ≤ (x1.length : Int))) (k0 ((x1.drop (x2.length : Int).toNat).take ((x1.length : Int).toNat - (x2.length : Int).toNat)) true))))
noncomputable def internal_stringslite_CutPrefix {R : Type} : internal_stringslite_CutPrefix_ty R := fun x1 x2 k0 => internal_stringslite_CutPrefix_X internal_stringslite_HasPrefix x1 x2 k0
theorem internal_stringslite_CutPrefix_ok {R : Type} (internal_stringslite_HasPrefix : internal_stringslite_HasPrefix_ty R) (x1 : Str) (x2 : Str) (k : V → Heap → Option R) : funK tt (internal_stringslite_CutPrefix_E R internal_stringslite_HasPrefix) (internal_stringslite_CutPrefix_T R) false Tryz.f156 (codeOf Tryz.f156) [.str x1, .str x2] [] k =
    internal_stringslite_CutPrefix_X internal_stringslite_HasPrefix x1 x2 (fun q0 q1 => k (.tuple [.str q0, .bool q1]) []) := by kernel_rfl
theorem internal_stringslite_CutPrefix_loops (R : Type) : ∀ a ∈ loopsOf (codeOf Tryz.f156), LoopOk tt (internal_stringslite_CutPrefix_E R internal_stringslite_HasPrefix) (internal_stringslite_CutPrefix_T R) 0 a := by
  refine loops_ok 0 (by kernel_rfl) fun i hi => ?_
  omega
theorem internal_stringslite_CutPrefix_S_ok (R : Type) (other : Yard.Spec R) (ho : Yard.Spec.Ok Tryz.prog 156 other) : Yard.Spec.Ok Tryz.prog 156 (specBy internal_stringslite_CutPrefix_p internal_stringslite_CutPrefix_q (internal_stringslite_CutPrefix_rr internal_stringslite_CutPrefix) other) :=
  specBy_ok ho (funK_sound TT mixed (internal_stringslite_CutPrefix_EOk R) (keep := false) rfl rfl rfl rfl 0 (internal_stringslite_CutPrefix_loops R)) fun (x : Pat.dens internal_stringslite_CutPrefix_p) (y : HPat.dens internal_stringslite_CutPrefix_q) k => internal_stringslite_CutPrefix_ok internal_stringslite_HasPrefix x.1 x.2.1 k

end Go.Proofs.YtmlkkgfenfdndaaGreatDoor

/-
  Functions of the program as pure Lean functions, and the ties; printed by wip/tools/emit.py.
-/
set_option maxRecDepth 100000
set_option linter.unusedVariables false
namespace Go.Proofs.YtmlkkgfenfdndaaGreatDoor
open Go Go.Yard

/-! ### strings.CutPrefix -/
abbrev strings_CutPrefix_ty (R : Type) : Type := Str → Str → (Str → Bool → Option R) → Option R
abbrev strings_CutPrefix_p : List Pat := [.leaf (.str), .leaf (.str)]
abbrev strings_CutPrefix_q : List HPat := []
noncomputable def strings_CutPrefix_rr {R : Type} (fn : strings_CutPrefix_ty R) : Pat.dens strings_CutPrefix_p → HPat.dens strings_CutPrefix_q → (V → Heap → Option R) → Option R := fun x y k => fn x.1 x.2.1 (fun q0 q1 => k (.tuple [.str q0, .bool q1]) [])
noncomputable def strings_CutPrefix_E (R : Type) (internal_stringslite_CutPrefix : internal_stringslite_CutPrefix_ty R) : Env R := fun i => match i with
  | 156 => some (true, (specBy internal_stringslite_CutPrefix_p internal_stringslite_CutPrefix_q (internal_stringslite_CutPrefix_rr internal_stringslite_CutPrefix) specNo))
  | _ => none
theorem strings_CutPrefix_EOk (R : Type) : EOk Tryz.prog (strings_CutPrefix_E R internal_stringslite_CutPrefix) := by
  intro i b sp h
  unfold strings_CutPrefix_E at h
  split at h
  · cases h; exact ⟨(internal_stringslite_CutPrefix_S_ok R _ (specNo_ok _)), fun h => nomatch h⟩
  · cases h

noncomputable def strings_CutPrefix_T (R : Type) : Nat → Option (Hint × LSpec R) := fun i => match i with
  | _ => none

noncomputable def strings_CutPrefix_X {R : Type} (internal_stringslite_CutPrefix : internal_stringslite_CutPrefix_ty R) (x1 : Str) (x2 : Str) (k0 : Str → Bool → Option R) : Option R :=
  internal_stringslite_CutPrefix x1 x2 (fun y3 y4 => k0 y3 y4)
noncomputable def strings_CutPrefix {R : Type} : strings_CutPrefix_ty R := fun x1 x2 k0 => strings_CutPrefix_X internal_stringslite_CutPrefix x1 x2 k0
theorem strings_CutPrefix_ok {R : Type} (internal_stringslite_CutPrefix : internal_stringslite_CutPrefix_ty R) (x1 : Str) (x2 : Str) (k : V → Heap → Option R) : funK tt (strings_CutPrefix_E R internal_stringslite_CutPrefix) (strings_CutPrefix_T R) false Tryz.f137 (codeOf Tryz.f137) [.str x1, .str x2] [] k =
    strings_CutPrefix_X internal_stringslite_CutPrefix x1 x2 (fun q0 q1 => k (.tuple [.str q0, .bool q1]) []) := by kernel_rfl
theorem strings_CutPrefix_loops (R : Type) : ∀ a ∈ loopsOf (codeOf Tryz.f137), LoopOk tt (strings_CutPrefix_E R internal_stringslite_CutPrefix) (strings_CutPrefix_T R) 0 a := by
  refine loops_ok 0 (by kernel_rfl) fun i hi => ?_
  omega
theorem strings_CutPrefix_S_ok (R : Type) (other : Yard.Spec R) (ho : Yard.Spec.Ok Tryz.prog 137 other) : Yard.Spec.Ok Tryz.prog 137 (specBy strings_CutPrefix_p strings_CutPrefix_q (strings_CutPrefix_rr strings_CutPrefix) other) :=
  specBy_ok ho (funK_sound TT mixed (strings_CutPrefix_EOk R) (keep := false) rfl rfl rfl rfl 0 (strings_CutPrefix_loops R)) fun (x : Pat.dens strings_CutPrefix_p) (y : HPat.dens strings_CutPrefix_q) k => strings_CutPrefix_ok internal_stringslite_CutPrefix x.1 x.2.1 k

/-! ### (*humpyard/quote.reader).skip -/
abbrev quote_reader_skip_e74a_ty (R : Type) : Type := Str → Str → (Bool → Str → Option R) → Option R
abbrev quote_reader_skip_e74a_p : List Pat := [.leaf (.ptr 0 0), .leaf (.str)]
abbrev quote_reader_skip_e74a_q : List HPat := [.cells [.str]]
noncomputable def quote_reader_skip_e74a_rr {R : Type} (fn : quote_reader_skip_e74a_ty R) : Pat.dens quote_reader_skip_e74a_p → HPat.dens quote_reader_skip_e74a_q → (V → Heap → Option R) → Option R := fun x y k => fn x.2.1 y.1.1 (fun q0 q1 => k (.bool q0) [.cells [.str q1]])
noncomputable def quote_reader_skip_e74a_E (R : Type) (strings_CutPrefix : strings_CutPrefix_ty R) : Env R := fun i => match i with
  | 137 => some (true, (specBy strings_CutPrefix_p strings_CutPrefix_q (strings_CutPrefix_rr strings_CutPrefix) specNo))
  | _ => none
theorem quote_reader_skip_e74a_EOk (R : Type) : EOk Tryz.prog (quote_reader_skip_e74a_E R strings_CutPrefix) := by
  intro i b sp h
  unfold quote_reader_skip_e74a_E at h
  split at h
  · cases h; exact ⟨(strings_CutPrefix_S_ok R _ (specNo_ok _)), fun h => nomatch h⟩
  · cases h

noncomputable def quote_reader_skip_e74a_T (R : Type) : Nat → Option (Hint × LSpec R) := fun i => match i with
  | _ => none

noncomputable def quote_reader_skip_e74a_X {R : Type} (strings_CutPrefix : strings_CutPrefix_ty R) (x1 : Str) (x2 : Str) (k0 : Bool → Str → Option R) : Option R :=
  strings_CutPrefix x2 x1 (fun y3 y4 => k0 y4 y3)
noncomputable def quote_reader_skip_e74a {R : Type} : quote_reader_skip_e74a_ty R := fun x1 x2 k0 => quote_reader_skip_e74a_X strings_CutPrefix x1 x2 k0
theorem quote_reader_skip_e74a_ok {R : Type} (strings_CutPrefix : strings_CutPrefix_ty R) (x1 : Str) (x2 : Str) (k : V → Heap → Option R) : funK tt (quote_reader_skip_e74a_E R strings_CutPrefix) (quote_reader_skip_e74a_T R) false Tryz.f107 (codeOf Tryz.f107) [.ptr 0 0, .str x1] [.cells [.str x2]] k =
    quote_reader_skip_e74a_X strings_CutPrefix x1 x2 (fun q0 q1 => k (.bool q0) [.cells [.str q1]]) := by kernel_rfl
theorem quote_reader_skip_e74a_loops (R : Type) : ∀ a ∈ loopsOf (codeOf Tryz.f107), LoopOk tt (quote_reader_skip_e74a_E R strings_CutPrefix) (quote_reader_skip_e74a_T R) 1 a := by
  refine loops_ok 0 (by kernel_rfl) fun i hi => ?_
  omega
theorem quote_reader_skip_e74a_S_ok (R : Type) (other : Yard.Spec R) (ho : Yard.Spec.Ok Tryz.prog 107 other) : Yard.Spec.Ok Tryz.prog 107 (specBy quote_reader_skip_e74a_p quote_reader_skip_e74a_q (quote_reader_skip_e74a_rr quote_reader_skip_e74a) other) :=
  specBy_ok ho (funK_sound TT mixed (quote_reader_skip_e74a_EOk R) (keep := false) rfl rfl rfl rfl 1 (quote_reader_skip_e74a_loops R)) fun (x : Pat.dens quote_reader_skip_e74a_p) (y : HPat.dens quote_reader_skip_e74a_q) k => quote_reader_skip_e74a_ok strings_CutPrefix x.2.1 y.1.1 k

/-! ### internal/strconv.lower -/
abbrev internal_strconv_lower_ty (R : Type) : Type := Int → (Int → Option R) → Option R
abbrev internal_strconv_lower_p : List Pat := [.leaf (.int .u8)]
abbrev internal_strconv_lower_q : List HPat := []
noncomputable def internal_strconv_lower_rr {R : Type} (fn : internal_strconv_lower_ty R) : Pat.dens internal_strconv_lower_p → HPat.dens internal_strconv_lower_q → (V → Heap → Option R) → Option R := fun x y k => fn x.1 (fun q0 => k (.int .u8 q0) [])
noncomputable def internal_strconv_lower_E (R : Type) : Env R := fun i => match i with
  | _ => none
theorem internal_strconv_lower_EOk (R : Type) : EOk Tryz.prog (internal_strconv_lower_E R) := by
  intro i b sp h
  unfold internal_strconv_lower_E at h
  split at h
  · cases h

noncomputable def internal_strconv_lower_T (R : Type) : Nat → Option (Hint × LSpec R) := fun i => match i with
  | _ => none

noncomputable def internal_strconv_lower_X {R : Type} (x1 : Int) (k0 : Int → Option R) : Option R :=
  k0 (IntKind.u8.wrap ((BitVec.ofInt IntKind.u8.bits x1 ||| BitVec.ofInt IntKind.u8.bits 32).toNat : Int))
noncomputable def internal_strconv_lower {R : Type} : internal_strconv_lower_ty R := fun x1 k0 => internal_strconv_lower_X x1 k0
theorem internal_strconv_lower_ok {R : Type} (x1 : Int) (k : V → Heap → Option R) : funK tt (internal_strconv_lower_E R) (internal_strconv_lower_T R) false Tryz.f176 (codeOf Tryz.f176) [.int .u8 x1] [] k =
    internal_strconv_lower_X x1 (fun q0 => k (.int .u8 q0) []) := by kernel_rfl
theorem internal_strconv_lower_loops (R : Type) : ∀ a ∈ loopsOf (codeOf Tryz.f176), LoopOk tt (internal_strconv_lower_E R) (internal_strconv_lower_T R) 0 a := by
  refine loops_ok 0 (by kernel_rfl) fun i hi => ?_
  omega
theorem internal_strconv_lower_S_ok (R : Type) (other : Yard.Spec R) (ho : Yard.Spec.Ok Tryz.prog 176 other) : Yard.Spec.Ok Tryz.prog 176 (specBy internal_strconv_lower_p internal_strconv_lower_q (internal_strconv_lower_rr internal_strconv_lower) other) :=
  specBy_ok ho (funK_sound TT mixed (internal_strconv_lower_EOk R) (keep := false) rfl rfl rfl rfl 0 (internal_strconv_lower_loops R)) fun (x : Pat.dens internal_strconv_lower_p) (y : HPat.dens internal_strconv_lower_q) k => internal_strconv_lower_ok x.1 k

/-! ### internal/strconv.underscoreOK -/
abbrev internal_strconv_underscoreOK_ty (R : Type) : Type := Str → (Bool → Option R) → Option R
abbrev internal_strconv_underscoreOK_p : List Pat := [.leaf (.str)]
abbrev internal_strconv_underscoreOK_q : List HPat := []
noncomputable def internal_strconv_underscoreOK_rr {R : Type} (fn : internal_strconv_underscoreOK_ty R) : Pat.dens internal_strconv_underscoreOK_p → HPat.dens internal_strconv_underscoreOK_q → (V → Heap → Option R) → Option R := fun x y k => fn x.1 (fun q0 => k (.bool q0) [])
abbrev internal_strconv_underscoreOK_10_0_ty (R : Type) : Type := Nat → Str → Int → Int → Bool → (Int → Option R) → (Bool → Int → Option R) → Option R
noncomputable def internal_strconv_underscoreOK_E (R : Type) (internal_strconv_lower : internal_strconv_lower_ty R) : Env R := fun i => match i with
  | 176 => some (true, (specBy internal_strconv_lower_p internal_strconv_lower_q (internal_strconv_lower_rr internal_strconv_lower) specNo))
  | _ => none
theorem internal_strconv_underscoreOK_EOk (R : Type) : EOk Tryz.prog (internal_strconv_underscoreOK_E R internal_strconv_lower) := by
  intro i b sp h
  unfold internal_strconv_underscoreOK_E at h
  split at h
  · cases h; exact ⟨(internal_strconv_lower_S_ok R _ (specNo_ok _)), fun h => nomatch h⟩
  · cases h

noncomputable def internal_strconv_underscoreOK_10_0_B {R : Type} (internal_strconv_lower : internal_strconv_lower_ty R) (rec' : Str → Int → Int → Bool → Option R) (x15 : Str) (x16 : Int) (x17 : Int) (x18 : Bool) (e0 : Int → Option R) (e1 : Bool → Int → Option R) : Option R :=
  bif (decide (x17 < (x15.length : Int))) then (chk (decide ((0 : Int) ≤ x17) && decide (x17 < x15.length)) (bif (decide ((48 : Int) ≤ ((x15.getD x17.toNat 0).toNat : Int))) then (chk (decide ((0 : Int) ≤ x17) && decide (x17 < x15.length)) (bif (decide (((x15.getD x17.toNat 0).toNat : Int) ≤ (57 : Int))) then (rec' x15 48 (IntKind.i64.wrap (x17 + 1)) x18) else (bif x18 then (chk (decide ((0 : Int) ≤ x17) && decide (x17 < x15.length)) (internal_strconv_lower ((x15.getD x17.toNat 0).toNat : Int) (fun y19 => bif (decide ((97 : Int) ≤ y19)) then (chk (decide ((0 : Int) ≤ x17) && decide (x17 < x15.length)) (internal_strconv_lower ((x15.getD x17.toNat 0).toNat : Int) (fun y20 => bif (decide (y20 ≤ (102 : Int))) then (rec' x15 48 (IntKind.i64.wrap (x17 + 1)) x18) else (chk (decide ((0 : Int) ≤ x17) && decide (x17 < x15.length)) (bif (((x15.getD x17.toNat 0).toNat : Int) == 95) then (bif (x16 != 48) then (e1 false x16) else (rec' x15 95 (IntKind.i64.wrap (x17 + 1)) x18)) else (bif (x16 == 95) then (e1 false x16) else (rec' x15 33 (IntKind.i64.wrap (x17 + 1)) x18))))))) else (chk (decide ((0 : Int) ≤ x17) && decide (x17 < x15.length)) (bif (((x15.getD x17.toNat 0).toNat : Int) == 95) then (bif (x16 != 48) then (e1 false x16) else (rec' x15 95 (IntKind.i64.wrap (x17 + 1)) x18)) else (bif (x16 == 95) then (e1 false x16) else (rec' x15 33 (IntKind.i64.wrap (x17 + 1)) x18))))))) else (chk (decide ((0 : Int) ≤ x17) && decide (x17 < x15.length)) (bif (((x15.getD x17.toNat 0).toNat : Int) == 95) then (bif (x16 != 48) then (e1 false x16) else (rec' x15 95 (IntKind.i64.wrap (x17 + 1)) x18)) else (bif (x16 == 95) then (e1 false x16) else (rec' x15 33 (IntKind.i64.wrap (x17 + 1)) x18))))))) else (bif x18 then (chk (decide ((0 : Int) ≤ x17) && decide (x17 < x15.length)) (internal_strconv_lower ((x15.getD x17.toNat 0).toNat : Int) (fun y21 => bif (decide ((97 : Int) ≤ y21)) then (chk (decide ((0 : Int) ≤ x17) && decide (x17 < x15.length)) (internal_strconv_lower ((x15.getD x17.toNat 0).toNat : Int) (fun y22 => bif (decide (y22 ≤ (102 : Int))) then (rec' x15 48 (IntKind.i64.wrap (x17 + 1)) x18) else (chk (decide ((0 : Int) ≤ x17) && decide (x17 < x15.length)) (bif (((x15.getD x17.toNat 0).toNat : Int) == 95) then (bif (x16 != 48) then (e1 false x16) else (rec' x15 95 (IntKind.i64.wrap (x17 + 1)) x18)) else (bif (x16 == 95) then (e1 false x16) else (rec' x15 33 (IntKind.i64.wrap (x17 + 1)) x18))))))) else (chk (decide ((0 : Int) ≤ x17) && decide (x17 < x15.length)) (bif (((x15.getD x17.toNat 0).toNat : Int) == 95) then (bif (x16 != 48) then (e1 false x16) else (rec' x15 95 (IntKind.i64.wrap (x17 + 1)) x18)) else (bif (x16 == 95) then (e1 false x16) else (rec' x15 33 (IntKind.i64.wrap (x17 + 1)) x18))))))) else (chk (decide ((0 : Int) ≤ x17) && decide (x17 < x15.length)) (bif (((x15.getD x17.toNat 0).toNat : Int) == 95) then (bif (x16 != 48) then (e1 false x16) else (rec' x15 95 (IntKind.i64.wrap (x17 + 1)) x18)) else (bif (x16 == 95) then (e1 false x16) else (rec' x15 33 (IntKind.i64.wrap (x17 + 1)) x18))))))) else (e0 x16)
noncomputable def internal_strconv_underscoreOK_10_0_L {R : Type} : internal_strconv_underscoreOK_10_0_ty R
  | 0, _, _, _, _, _, _ => none
  | n + 1, x0', x1', x2', x3', e0, e1 => internal_strconv_underscoreOK_10_0_B internal_strconv_lower (fun x0' x1' x2' x3' => internal_strconv_underscoreOK_10_0_L n x0' x1' x2' x3' e0 e1) x0' x1' x2' x3' e0 e1
noncomputable def internal_strconv_underscoreOK_10_0_h : Hint := { live := [0, 3, 4, 5], own := [], rows := [], cells := [], drop := [], out := [2, 3] }
abbrev internal_strconv_underscoreOK_10_0_D : Type := Str × Int × Int × Bool
noncomputable def internal_strconv_underscoreOK_10_0_enc : internal_strconv_underscoreOK_10_0_D → St := fun d => ⟨[.str d.1, .undef, .undef, .int .i32 d.2.1, .int .i64 d.2.2.1, .bool d.2.2.2, .undef, .undef, .undef, .undef, .undef, .undef, .undef, .undef, .undef, .undef, .undef, .undef, .undef, .undef, .undef, .undef, .undef, .undef, .undef, .undef, .undef, .undef, .undef, .undef, .undef, .undef, .undef, .undef, .undef, .undef, .undef, .undef, .undef, .undef, .undef, .undef, .undef, .undef, .undef, .undef, .undef, .undef, .undef, .undef, .undef, .undef, .undef, .undef, .undef, .undef, .undef, .undef, .undef, .undef, .undef, .undef, .undef, .undef, .undef, .undef, .undef, .undef, .undef, .undef, .undef, .undef, .undef, .undef, .undef, .undef, .undef, .undef, .undef, .undef, .undef, .undef, .undef, .undef, .undef, .undef, .undef, .undef, .undef, .undef, .undef, .undef, .undef, .undef], []⟩
noncomputable def internal_strconv_underscoreOK_10_0_x0 {R : Type} (K : Ex → St → Option R) (q0 : Int) : Option R := K (.exit 0) ⟨[.undef, .undef, .undef, .int .i32 q0, .undef, .undef, .undef, .undef, .undef, .undef, .undef, .undef, .undef, .undef, .undef, .undef, .undef, .undef, .undef, .undef, .undef, .undef, .undef, .undef, .undef, .undef, .undef, .undef, .undef, .undef, .undef, .undef, .undef, .undef, .undef, .undef, .undef, .undef, .undef, .undef, .undef, .undef, .undef, .undef, .undef, .undef, .undef, .undef, .undef, .undef, .undef, .undef, .undef, .undef, .undef, .undef, .undef, .undef, .undef, .undef, .undef, .undef, .undef, .undef, .undef, .undef, .undef, .undef, .undef, .undef, .undef, .undef, .undef, .undef, .undef, .undef, .undef, .undef, .undef, .undef, .undef, .undef, .undef, .undef, .undef, .undef, .undef, .undef, .undef, .undef, .undef, .undef, .undef, .undef], []⟩
noncomputable def internal_strconv_underscoreOK_10_0_x1 {R : Type} (K : Ex → St → Option R) (q0 : Bool) (q1 : Int) : Option R := K (.ret) ⟨[.undef, .undef, .bool q0, .int .i32 q1, .undef, .undef, .undef, .undef, .undef, .undef, .undef, .undef, .undef, .undef, .undef, .undef, .undef, .undef, .undef, .undef, .undef, .undef, .undef, .undef, .undef, .undef, .undef, .undef, .undef, .undef, .undef, .undef, .undef, .undef, .undef, .undef, .undef, .undef, .undef, .undef, .undef, .undef, .undef, .undef, .undef, .undef, .undef, .undef, .undef, .undef, .undef, .undef, .undef, .undef, .undef, .undef, .undef, .undef, .undef, .undef, .undef, .undef, .undef, .undef, .undef, .undef, .undef, .undef, .undef, .undef, .undef, .undef, .undef, .undef, .undef, .undef, .undef, .undef, .undef, .undef, .undef, .undef, .undef, .undef, .undef, .undef, .undef, .undef, .undef, .undef, .undef, .undef, .undef, .undef], []⟩
noncomputable def internal_strconv_underscoreOK_10_0_s {R : Type} (internal_strconv_lower : internal_strconv_lower_ty R) (K : Ex → St → Option R) (rc : internal_strconv_underscoreOK_10_0_D → Option R) (d : internal_strconv_underscoreOK_10_0_D) : Option R := internal_strconv_underscoreOK_10_0_B internal_strconv_lower (fun z0 z1 z2 z3 => rc (z0, z1, z2, z3)) d.1 d.2.1 d.2.2.1 d.2.2.2 (internal_strconv_underscoreOK_10_0_x0 K) (internal_strconv_underscoreOK_10_0_x1 K)
noncomputable def internal_strconv_underscoreOK_10_0_A {R : Type} (K : Ex → St → Option R) (n : Nat) (d : internal_strconv_underscoreOK_10_0_D) : Option R := internal_strconv_underscoreOK_10_0_L n d.1 d.2.1 d.2.2.1 d.2.2.2 (internal_strconv_underscoreOK_10_0_x0 K) (internal_strconv_underscoreOK_10_0_x1 K)
abbrev internal_strconv_underscoreOK_10_0_p : List Pat := [.leaf (.str), .leaf (.undef), .leaf (.undef), .leaf (.int .i32), .leaf (.int .i64), .leaf (.bool), .leaf (.undef), .leaf (.undef), .leaf (.undef), .leaf (.undef), .leaf (.undef), .leaf (.undef), .leaf (.undef), .leaf (.undef), .leaf (.undef), .leaf (.undef), .leaf (.undef), .leaf (.undef), .leaf (.undef), .leaf (.undef), .leaf (.undef), .leaf (.undef), .leaf (.undef), .leaf (.undef), .leaf (.undef), .leaf (.undef), .leaf (.undef), .leaf (.undef), .leaf (.undef), .leaf (.undef), .leaf (.undef), .leaf (.undef), .leaf (.undef), .leaf (.undef), .leaf (.undef), .leaf (.undef), .leaf (.undef), .leaf (.undef), .leaf (.undef), .leaf (.undef), .leaf (.undef), .leaf (.undef), .leaf (.undef), .leaf (.undef), .leaf (.undef), .leaf (.undef), .leaf (.undef), .leaf (.undef), .leaf (.undef), .leaf (.undef), .leaf (.undef), .leaf (.undef), .leaf (.undef), .leaf (.undef), .leaf (.undef), .leaf (.undef), .leaf (.undef), .leaf (.undef), .leaf (.undef), .leaf (.undef), .leaf (.undef), .leaf (.undef), .leaf (.undef), .leaf (.undef), .leaf (.undef), .leaf (.undef), .leaf (.undef), .leaf (.undef), .leaf (.undef), .leaf (.undef), .leaf (.undef), .leaf (.undef), .leaf (.undef), .leaf (.undef), .leaf (.undef), .leaf (.undef), .leaf (.undef), .leaf (.undef), .leaf (.undef), .leaf (.undef), .leaf (.undef), .leaf (.undef), .leaf (.undef), .leaf (.undef), .leaf (.undef), .leaf (.undef), .leaf (.undef), .leaf (.undef), .leaf (.undef), .leaf (.undef), .leaf (.undef), .leaf (.undef), .leaf (.undef), .leaf (.undef)]
abbrev internal_strconv_underscoreOK_10_0_q : List HPat := []
noncomputable def internal_strconv_underscoreOK_10_0_f (x : Pat.dens internal_strconv_underscoreOK_10_0_p) (y : HPat.dens internal_strconv_underscoreOK_10_0_q) : Nat := (List.length x.1 + Int.natAbs x.2.2.2.1 + Int.natAbs x.2.2.2.2.1 + 64)
noncomputable def internal_strconv_underscoreOK_10_0_d (x : Pat.dens internal_strconv_underscoreOK_10_0_p) (y : HPat.dens internal_strconv_underscoreOK_10_0_q) : internal_strconv_underscoreOK_10_0_D := (x.1, x.2.2.2.1, x.2.2.2.2.1, x.2.2.2.2.2.1)
noncomputable def internal_strconv_underscoreOK_10_0_rr {R : Type} (L : internal_strconv_underscoreOK_10_0_ty R) : Pat.dens internal_strconv_underscoreOK_10_0_p → HPat.dens internal_strconv_underscoreOK_10_0_q → (Ex → St → Option R) → Option R := fun x y K => L (internal_strconv_underscoreOK_10_0_f x y) x.1 x.2.2.2.1 x.2.2.2.2.1 x.2.2.2.2.2.1 (internal_strconv_underscoreOK_10_0_x0 K) (internal_strconv_underscoreOK_10_0_x1 K)
noncomputable def internal_strconv_underscoreOK_T (R : Type) (internal_strconv_underscoreOK_10_0_L : internal_strconv_underscoreOK_10_0_ty R) : Nat → Option (Hint × LSpec R) := fun i => match i with
  | 10 => some (internal_strconv_underscoreOK_10_0_h, (loopBy internal_strconv_underscoreOK_10_0_p internal_strconv_underscoreOK_10_0_q (internal_strconv_underscoreOK_10_0_rr internal_strconv_underscoreOK_10_0_L) loopNo))
  | _ => none

theorem internal_strconv_underscoreOK_10_0_B_ok {R : Type} (internal_strconv_lower : internal_strconv_lower_ty R) (internal_strconv_underscoreOK_10_0_L : internal_strconv_underscoreOK_10_0_ty R) (K : Ex → St → Option R) (rc : St → Option R) (d : internal_strconv_underscoreOK_10_0_D) : roundOf tt (internal_strconv_underscoreOK_E R internal_strconv_lower) (internal_strconv_underscoreOK_T R internal_strconv_underscoreOK_10_0_L) 0 ((loopsOf (codeOf Tryz.f177)).getD 0 .skip) internal_strconv_underscoreOK_10_0_h (internal_strconv_underscoreOK_10_0_enc d) rc K = internal_strconv_underscoreOK_10_0_s internal_strconv_lower K (fun d => rc (internal_strconv_underscoreOK_10_0_enc d)) d := by kernel_rfl
theorem internal_strconv_underscoreOK_10_0_A_succ {R : Type} (K : Ex → St → Option R) (n : Nat) (d : internal_strconv_underscoreOK_10_0_D) : internal_strconv_underscoreOK_10_0_A K (n + 1) d = internal_strconv_underscoreOK_10_0_s internal_strconv_lower K (internal_strconv_underscoreOK_10_0_A K n) d := by kernel_rfl
theorem internal_strconv_underscoreOK_10_0_A_zero {R : Type} (K : Ex → St → Option R) (d : internal_strconv_underscoreOK_10_0_D) : internal_strconv_underscoreOK_10_0_A K 0 d = none := by kernel_rfl
theorem internal_strconv_underscoreOK_10_0_e_ok (x : Pat.dens internal_strconv_underscoreOK_10_0_p) (y : HPat.dens internal_strconv_underscoreOK_10_0_q) : (⟨Pat.encL internal_strconv_underscoreOK_10_0_p x, HPat.encL internal_strconv_underscoreOK_10_0_q y⟩ : St) = internal_strconv_underscoreOK_10_0_enc (internal_strconv_underscoreOK_10_0_d x y) := by kernel_rfl
theorem internal_strconv_underscoreOK_10_0_r_ok {R : Type} (x : Pat.dens internal_strconv_underscoreOK_10_0_p) (y : HPat.dens internal_strconv_underscoreOK_10_0_q) (K : Ex → St → Option R) : internal_strconv_underscoreOK_10_0_rr (internal_strconv_underscoreOK_10_0_L) x y K = internal_strconv_underscoreOK_10_0_A K (internal_strconv_underscoreOK_10_0_f x y) (internal_strconv_underscoreOK_10_0_d x y) := by kernel_rfl
theorem internal_strconv_underscoreOK_10_0_ok {R : Type} (other : LSpec R) (ho : LsOk tt (internal_strconv_underscoreOK_E R internal_strconv_lower) (internal_strconv_underscoreOK_T R internal_strconv_underscoreOK_10_0_L) 0 ((loopsOf (codeOf Tryz.f177)).getD 0 .skip) internal_strconv_underscoreOK_10_0_h other) : LsOk tt (internal_strconv_underscoreOK_E R internal_strconv_lower) (internal_strconv_underscoreOK_T R internal_strconv_underscoreOK_10_0_L) 0 ((loopsOf (codeOf Tryz.f177)).getD 0 .skip) internal_strconv_underscoreOK_10_0_h (loopBy internal_strconv_underscoreOK_10_0_p internal_strconv_underscoreOK_10_0_q (internal_strconv_underscoreOK_10_0_rr (internal_strconv_underscoreOK_10_0_L)) other) :=
  loopBy_tie (A := internal_strconv_underscoreOK_10_0_A) ho (loop_tie internal_strconv_underscoreOK_10_0_enc (internal_strconv_underscoreOK_10_0_s internal_strconv_lower) (internal_strconv_underscoreOK_10_0_A) (internal_strconv_underscoreOK_10_0_A_zero) (internal_strconv_underscoreOK_10_0_B_ok internal_strconv_lower internal_strconv_underscoreOK_10_0_L) (internal_strconv_underscoreOK_10_0_A_succ)) internal_strconv_underscoreOK_10_0_f internal_strconv_underscoreOK_10_0_d internal_strconv_underscoreOK_10_0_e_ok (internal_strconv_underscoreOK_10_0_r_ok)

noncomputable def internal_strconv_underscoreOK_X {R : Type} (internal_strconv_lower : internal_strconv_lower_ty R) (internal_strconv_underscoreOK_10_0_L : internal_strconv_underscoreOK_10_0_ty R) (x1 : Str) (k0 : Bool → Option R) : Option R :=
  let j46 := fun (z3 : Str) => bif (decide ((z3.length : Int) ≥ (2 : Int))) then (chk (decide ((0 : Int) < z3.length)) (bif (((z3.getD 0 0).toNat : Int) == 48) then (chk (decide ((1 : Int) < z3.length)) (internal_strconv_lower ((z3.getD 1 0).toNat : Int) (fun y4 => bif (y4 == 98) then (chk (decide ((1 : Int) < z3.length)) (internal_strconv_lower ((z3.getD 1 0).toNat : Int) (fun y9 => internal_strconv_underscoreOK_10_0_L (List.length z3 + Int.natAbs 48 + Int.natAbs 2 + 64) z3 48 2 (y9 == 120) (fun y28 => k0 (y28 != 95)) (fun y29 y30 => k0 y29)))) else (chk (decide ((1 : Int) < z3.length)) (internal_strconv_lower ((z3.getD 1 0).toNat : Int) (fun y5 => bif (y5 == 111) then (chk (decide ((1 : Int) < z3.length)) (internal_strconv_lower ((z3.getD 1 0).toNat : Int) (fun y10 => internal_strconv_underscoreOK_10_0_L (List.length z3 + Int.natAbs 48 + Int.natAbs 2 + 64) z3 48 2 (y10 == 120) (fun y31 => k0 (y31 != 95)) (fun y32 y33 => k0 y32)))) else (chk (decide ((1 : Int) < z3.length)) (internal_strconv_lower ((z3.getD 1 0).toNat : Int) (fun y6 => bif (y6 == 120) then (chk (decide ((1 : Int) < z3.length)) (internal_strconv_lower ((z3.getD 1 0).toNat : Int) (fun y11 => internal_strconv_underscoreOK_10_0_L (List.length z3 + Int.natAbs 48 + Int.natAbs 2 + 64) z3 48 2 (y11 == 120) (fun y34 => k0 (y34 != 95)) (fun y35 y36 => k0 y35)))) else (internal_strconv_underscoreOK_10_0_L (List.length z3 + Int.natAbs 94 + Int.natAbs 0 + 64) z3 94 0 false (fun y37 => k0 (y37 != 95)) (fun y38 y39 => k0 y38))))))))))) else (internal_strconv_underscoreOK_10_0_L (List.length z3 + Int.natAbs 94 + Int.natAbs 0 + 64) z3 94 0 false (fun y40 => k0 (y40 != 95)) (fun y41 y42 => k0 y41)))) else (internal_strconv_underscoreOK_10_0_L (List.length z3 + Int.natAbs 94 + Int.natAbs 0 + 64) z3 94 0 false (fun y43 => k0 (y43 != 95)) (fun y44 y45 => k0 y44)); bif (decide ((x1.length : Int) ≥ (1 : Int))) then (chk (decide ((0 : Int) < x1.length)) (bif (((x1.getD 0 0).toNat : Int) == 45) then (chk (decide ((0 : Int) ≤ (x1.length : Int)) && decide ((x1.length : Int) ≤ x1.length)) (chk (decide ((1 : Int) ≤ (x1.length : Int))) (j46 ((x1.drop 1).take ((x1.length : Int).toNat - 1))))) else (chk (decide ((0 : Int) < x1.length)) (bif (((x1.getD 0 0).toNat : Int) == 43) then (chk (decide ((0 : Int) ≤ (x1.length : Int)) && decide ((x1.length : Int) ≤ x1.length)) (chk (decide ((1 : Int) ≤ (x1.length : Int))) (j46 ((x1.drop 1).take ((x1.length : Int).toNat - 1))))) else (j46 x1))))) else (j46 x1)
noncomputable def internal_strconv_underscoreOK {R : Type} : internal_strconv_underscoreOK_ty R := fun x1 k0 => internal_strconv_underscoreOK_X internal_strconv_lower internal_strconv_underscoreOK_10_0_L x1 k0
theorem internal_strconv_underscoreOK_ok {R : Type} (internal_strconv_lower : internal_strconv_lower_ty R) (internal_strconv_underscoreOK_10_0_L : internal_strconv_underscoreOK_10_0_ty R) (x1 : Str) (k : V → Heap → Option R) : funK tt (internal_strconv_underscoreOK_E R internal_strconv_lower) (internal_strconv_underscoreOK_T R internal_strconv_underscoreOK_10_0_L) false Tryz.f177 (codeOf Tryz.f177) [.str x1] [] k =
    internal_strconv_underscoreOK_X internal_strconv_lower internal_strconv_underscoreOK_10_0_L x1 (fun q0 => k (.bool q0) []) := by kernel_rfl
theorem internal_strconv_underscoreOK_loops (R : Type) : ∀ a ∈ loopsOf (codeOf Tryz.f177), LoopOk tt (internal_strconv_underscoreOK_E R internal_strconv_lower) (internal_strconv_underscoreOK_T R internal_strconv_underscoreOK_10_0_L) 0 a := by
  refine loops_ok 1 (by kernel_rfl) fun i hi => ?_
  match i, hi with
  | 0, _ => exact loopOk_some (by kernel_rfl) (internal_strconv_underscoreOK_10_0_ok _ loopNo_ok)
  | n + 1, hi => omega
theorem internal_strconv_underscoreOK_S_ok (R : Type) (other : Yard.Spec R) (ho : Yard.Spec.Ok Tryz.prog 177 other) : Yard.Spec.Ok Tryz.prog 177 (specBy internal_strconv_underscoreOK_p internal_strconv_underscoreOK_q (internal_strconv_underscoreOK_rr internal_strconv_underscoreOK) other) :=
  specBy_ok ho (funK_sound TT mixed (internal_strconv_underscoreOK_EOk R) (keep := false) rfl rfl rfl rfl 0 (internal_strconv_underscoreOK_loops R)) fun (x : Pat.dens internal_strconv_underscoreOK_p) (y : HPat.dens internal_strconv_underscoreOK_q) k => internal_strconv_underscoreOK_ok internal_strconv_lower internal_strconv_underscoreOK_10_0_L x.1 k

end Go.Proofs.YtmlkkgfenfdndaaGreatDoor

/-
  Functions of the program as pure Lean functions, and the ties; printed by wip/tools/emit.py.
-/
set_option maxRecDepth 100000
set_option linter.unusedVariables false
namespace Go.Proofs.YtmlkkgfenfdndaaGreatDoor
open Go Go.Yard

/-! ### internal/strconv.ParseUint -/
abbrev internal_strconv_ParseUint_ty (R : Type) : Type := Str → Int → Int → (Int → Option R) → (Int → Option R) → (Int → Option R) → (Int → Option R) → (Int → Option R) → Option R
abbrev internal_strconv_ParseUint_p : List Pat := [.leaf (.str), .leaf (.int .i64), .leaf (.int .i64)]
abbrev internal_strconv_ParseUint_q : List HPat := []
noncomputable def internal_strconv_ParseUint_rr {R : Type} (fn : internal_strconv_ParseUint_ty R) : Pat.dens internal_strconv_ParseUint_p → HPat.dens internal_strconv_ParseUint_q → (V → Heap → Option R) → Option R := fun x y k => fn x.1 x.2.1 x.2.2.1 (fun q0 => k (.tuple [.int .u64 q0, .ifi 184 .i64 2]) []) (fun q0 => k (.tuple [.int .u64 q0, .ifi 184 .i64 3]) []) (fun q0 => k (.tuple [.int .u64 q0, .ifi 184 .i64 4]) []) (fun q0 => k (.tuple [.int .u64 q0, .ifi 184 .i64 1]) []) (fun q0 => k (.tuple [.int .u64 q0, .niliface]) [])
abbrev internal_strconv_ParseUint_36_0_ty (R : Type) : Type := Nat → Int → Bool → Str → Int → Int → Bool → Int → Nat → Int → Int → (List Int) → (Str → Bool → Int → Option R) → (Int → Str → Bool → Int → Option R) → (Int → Str → Bool → Int → Option R) → (Int → Str → Bool → Option R) → Option R
noncomputable def internal_strconv_ParseUint_E (R : Type) (internal_strconv_lower : internal_strconv_lower_ty R) (internal_strconv_underscoreOK : internal_strconv_underscoreOK_ty R) : Env R := fun i => match i with
  | 176 => some (true, (specBy internal_strconv_lower_p internal_strconv_lower_q (internal_strconv_lower_rr internal_strconv_lower) specNo))
  | 177 => some (true, (specBy internal_strconv_underscoreOK_p internal_strconv_underscoreOK_q (internal_strconv_underscoreOK_rr internal_strconv_underscoreOK) specNo))
  | _ => none
theorem internal_strconv_ParseUint_EOk (R : Type) : EOk Tryz.prog (internal_strconv_ParseUint_E R internal_strconv_lower internal_strconv_underscoreOK) := by
  intro i b sp h
  unfold internal_strconv_ParseUint_E at h
  split at h
  · cases h; exact ⟨(internal_strconv_lower_S_ok R _ (specNo_ok _)), fun h => nomatch h⟩
  · cases h; exact ⟨(internal_strconv_underscoreOK_S_ok R _ (specNo_ok _)), fun h => nomatch h⟩
  · cases h

noncomputable def internal_strconv_ParseUint_36_0_B {R : Type} (internal_strconv_lower : internal_strconv_lower_ty R) (rec' : Int → Bool → Str → Int → Int → Bool → Int → Nat → Int → Int → (List Int) → Option R) (x20 : Int) (x21 : Bool) (x22 : Str) (x23 : Int) (x24 : Int) (x25 : Bool) (x26 : Int) (x27 : Nat) (x28 : Int) (x29 : Int) (x30 : List Int) (e0 : Str → Bool → Int → Option R) (e1 : Int → Str → Bool → Int → Option R) (e2 : Int → Str → Bool → Int → Option R) (e3 : Int → Str → Bool → Option R) : Option R :=
  bif (decide (x29 < x28)) then (chk (decide ((0 : Int) ≤ x29) && decide (x29 < x27)) (chk (decide (x29.toNat < x30.length)) (let j42 := fun (z40 : Int) => bif (decide (z40 ≥ (IntKind.u8.wrap x20))) then (e1 0 x22 x25 x26) else (bif (decide (x26 ≥ x23)) then (e2 x24 x22 x25 x26) else (bif (decide ((IntKind.u64.wrap ((IntKind.u64.wrap (x26 * (IntKind.u64.wrap x20))) + (IntKind.u64.wrap z40))) < (IntKind.u64.wrap (x26 * (IntKind.u64.wrap x20))))) then (e2 x24 x22 x25 (IntKind.u64.wrap (x26 * (IntKind.u64.wrap x20)))) else (bif (decide ((IntKind.u64.wrap ((IntKind.u64.wrap (x26 * (IntKind.u64.wrap x20))) + (IntKind.u64.wrap z40))) > x24)) then (e2 x24 x22 x25 (IntKind.u64.wrap (x26 * (IntKind.u64.wrap x20)))) else (rec' x20 x21 x22 x23 x24 x25 (IntKind.u64.wrap ((IntKind.u64.wrap (x26 * (IntKind.u64.wrap x20))) + (IntKind.u64.wrap z40))) x27 x28 (IntKind.i64.wrap (x29 + 1)) x30)))); let j39 := fun (z31 : Bool) => bif z31 then (rec' x20 x21 x22 x23 x24 true x26 x27 x28 (IntKind.i64.wrap (x29 + 1)) x30) else (let j38 := fun (z32 : Bool) => bif z32 then (j42 (IntKind.u8.wrap ((x30.getD x29.toNat (Ty.dflt (.int .u8))) - 48))) else (internal_strconv_lower (x30.getD x29.toNat (Ty.dflt (.int .u8))) (fun y33 => bif (decide ((97 : Int) ≤ y33)) then (internal_strconv_lower (x30.getD x29.toNat (Ty.dflt (.int .u8))) (fun y34 => bif (decide (y34 ≤ (122 : Int))) then (internal_strconv_lower (x30.getD x29.toNat (Ty.dflt (.int .u8))) (fun y37 => j42 (IntKind.u8.wrap ((IntKind.u8.wrap (y37 - 97)) + 10)))) else (e1 0 x22 x25 x26))) else (e1 0 x22 x25 x26))); bif (decide ((48 : Int) ≤ (x30.getD x29.toNat (Ty.dflt (.int .u8))))) then (j38 (decide ((x30.getD x29.toNat (Ty.dflt (.int .u8))) ≤ (57 : Int)))) else (j38 false)); bif ((x30.getD x29.toNat (Ty.dflt (.int .u8))) == 95) then (j39 x21) else (j39 false)))) else (e0 x22 x25 x26)
noncomputable def internal_strconv_ParseUint_36_0_L {R : Type} : internal_strconv_ParseUint_36_0_ty R
  | 0, _, _, _, _, _, _, _, _, _, _, _, _, _, _, _ => none
  | n + 1, x0', x1', x2', x3', x4', x5', x6', x7', x8', x9', x10', e0, e1, e2, e3 => internal_strconv_ParseUint_36_0_B internal_strconv_lower (fun x0' x1' x2' x3' x4' x5' x6' x7' x8' x9' x10' => internal_strconv_ParseUint_36_0_L n x0' x1' x2' x3' x4' x5' x6' x7' x8' x9' x10' e0 e1 e2 e3) x0' x1' x2' x3' x4' x5' x6' x7' x8' x9' x10' e0 e1 e2 e3
noncomputable def internal_strconv_ParseUint_36_0_h : Hint := { live := [1, 8, 9, 10, 11, 12, 13, 99, 100, 101], own := [], rows := [], cells := [], drop := [], out := [6, 7, 9, 12, 13] }
abbrev internal_strconv_ParseUint_36_0_D : Type := Int × Bool × Str × Int × Int × Bool × Int × Nat × Int × Int × (List Int)
noncomputable def internal_strconv_ParseUint_36_0_enc : internal_strconv_ParseUint_36_0_D → St := fun d => ⟨[.undef, .int .i64 d.1, .undef, .undef, .undef, .undef, .undef, .undef, .bool d.2.1, .str d.2.2.1, .int .u64 d.2.2.2.1, .int .u64 d.2.2.2.2.1, .bool d.2.2.2.2.2.1, .int .u64 d.2.2.2.2.2.2.1, .undef, .undef, .undef, .undef, .undef, .undef, .undef, .undef, .undef, .undef, .undef, .undef, .undef, .undef, .undef, .undef, .undef, .undef, .undef, .undef, .undef, .undef, .undef, .undef, .undef, .undef, .undef, .undef, .undef, .undef, .undef, .undef, .undef, .undef, .undef, .undef, .undef, .undef, .undef, .undef, .undef, .undef, .undef, .undef, .undef, .undef, .undef, .undef, .undef, .undef, .undef, .undef, .undef, .undef, .undef, .undef, .undef, .undef, .undef, .undef, .undef, .undef, .undef, .undef, .undef, .undef, .undef, .undef, .undef, .undef, .undef, .undef, .undef, .undef, .undef, .undef, .undef, .undef, .undef, .undef, .undef, .undef, .undef, .undef, .undef, .row 0 d.2.2.2.2.2.2.2.1, .int .i64 d.2.2.2.2.2.2.2.2.1, .int .i64 d.2.2.2.2.2.2.2.2.2.1, .undef, .undef, .undef, .undef, .undef, .undef, .undef, .undef, .undef, .undef, .undef, .undef, .undef, .undef, .undef, .undef, .undef, .undef, .undef, .undef, .undef, .undef, .undef, .undef, .undef, .undef, .undef, .undef, .undef, .undef, .undef, .undef, .undef, .undef, .undef, .undef, .undef, .undef, .undef, .undef, .undef, .undef, .undef, .undef, .undef, .undef, .undef, .undef, .undef, .undef, .undef, .undef, .undef, .undef, .undef, .undef, .undef, .undef, .undef, .undef, .undef, .undef, .undef, .undef, .undef, .undef, .undef, .undef, .undef, .undef], [.row (.int .u8) d.2.2.2.2.2.2.2.2.2.2]⟩
noncomputable def internal_strconv_ParseUint_36_0_x0 {R : Type} (K : Ex → St → Option R) (q0 : Str) (q1 : Bool) (q2 : Int) : Option R := K (.exit 3) ⟨[.undef, .undef, .undef, .undef, .undef, .undef, .undef, .undef, .undef, .str q0, .undef, .undef, .bool q1, .int .u64 q2, .undef, .undef, .undef, .undef, .undef, .undef, .undef, .undef, .undef, .undef, .undef, .undef, .undef, .undef, .undef, .undef, .undef, .undef, .undef, .undef, .undef, .undef, .undef, .undef, .undef, .undef, .undef, .undef, .undef, .undef, .undef, .undef, .undef, .undef, .undef, .undef, .undef, .undef, .undef, .undef, .undef, .undef, .undef, .undef, .undef, .undef, .undef, .undef, .undef, .undef, .undef, .undef, .undef, .undef, .undef, .undef, .undef, .undef, .undef, .undef, .undef, .undef, .undef, .undef, .undef, .undef, .undef, .undef, .undef, .undef, .undef, .undef, .undef, .undef, .undef, .undef, .undef, .undef, .undef, .undef, .undef, .undef, .undef, .undef, .undef, .undef, .undef, .undef, .undef, .undef, .undef, .undef, .undef, .undef, .undef, .undef, .undef, .undef, .undef, .undef, .undef, .undef, .undef, .undef, .undef, .undef, .undef, .undef, .undef, .undef, .undef, .undef, .undef, .undef, .undef, .undef, .undef, .undef, .undef, .undef, .undef, .undef, .undef, .undef, .undef, .undef, .undef, .undef, .undef, .undef, .undef, .undef, .undef, .undef, .undef, .undef, .undef, .undef, .undef, .undef, .undef, .undef, .undef, .undef, .undef, .undef, .undef, .undef, .undef, .undef, .undef, .undef, .undef, .undef, .undef, .undef, .undef, .undef], []⟩
noncomputable def internal_strconv_ParseUint_36_0_x1 {R : Type} (K : Ex → St → Option R) (q0 : Int) (q1 : Str) (q2 : Bool) (q3 : Int) : Option R := K (.ret) ⟨[.undef, .undef, .undef, .undef, .undef, .undef, .int .u64 q0, .ifi 184 .i64 2, .undef, .str q1, .undef, .undef, .bool q2, .int .u64 q3, .undef, .undef, .undef, .undef, .undef, .undef, .undef, .undef, .undef, .undef, .undef, .undef, .undef, .undef, .undef, .undef, .undef, .undef, .undef, .undef, .undef, .undef, .undef, .undef, .undef, .undef, .undef, .undef, .undef, .undef, .undef, .undef, .undef, .undef, .undef, .undef, .undef, .undef, .undef, .undef, .undef, .undef, .undef, .undef, .undef, .undef, .undef, .undef, .undef, .undef, .undef, .undef, .undef, .undef, .undef, .undef, .undef, .undef, .undef, .undef, .undef, .undef, .undef, .undef, .undef, .undef, .undef, .undef, .undef, .undef, .undef, .undef, .undef, .undef, .undef, .undef, .undef, .undef, .undef, .undef, .undef, .undef, .undef, .undef, .undef, .undef, .undef, .undef, .undef, .undef, .undef, .undef, .undef, .undef, .undef, .undef, .undef, .undef, .undef, .undef, .undef, .undef, .undef, .undef, .undef, .undef, .undef, .undef, .undef, .undef, .undef, .undef, .undef, .undef, .undef, .undef, .undef, .undef, .undef, .undef, .undef, .undef, .undef, .undef, .undef, .undef, .undef, .undef, .undef, .undef, .undef, .undef, .undef, .undef, .undef, .undef, .undef, .undef, .undef, .undef, .undef, .undef, .undef, .undef, .undef, .undef, .undef, .undef, .undef, .undef, .undef, .undef, .undef, .undef, .undef, .undef, .undef, .undef], []⟩
noncomputable def internal_strconv_ParseUint_36_0_x2 {R : Type} (K : Ex → St → Option R) (q0 : Int) (q1 : Str) (q2 : Bool) (q3 : Int) : Option R := K (.ret) ⟨[.undef, .undef, .undef, .undef, .undef, .undef, .int .u64 q0, .ifi 184 .i64 1, .undef, .str q1, .undef, .undef, .bool q2, .int .u64 q3, .undef, .undef, .undef, .undef, .undef, .undef, .undef, .undef, .undef, .undef, .undef, .undef, .undef, .undef, .undef, .undef, .undef, .undef, .undef, .undef, .undef, .undef, .undef, .undef, .undef, .undef, .undef, .undef, .undef, .undef, .undef, .undef, .undef, .undef, .undef, .undef, .undef, .undef, .undef, .undef, .undef, .undef, .undef, .undef, .undef, .undef, .undef, .undef, .undef, .undef, .undef, .undef, .undef, .undef, .undef, .undef, .undef, .undef, .undef, .undef, .undef, .undef, .undef, .undef, .undef, .undef, .undef, .undef, .undef, .undef, .undef, .undef, .undef, .undef, .undef, .undef, .undef, .undef, .undef, .undef, .undef, .undef, .undef, .undef, .undef, .undef, .undef, .undef, .undef, .undef, .undef, .undef, .undef, .undef, .undef, .undef, .undef, .undef, .undef, .undef, .undef, .undef, .undef, .undef, .undef, .undef, .undef, .undef, .undef, .undef, .undef, .undef, .undef, .undef, .undef, .undef, .undef, .undef, .undef, .undef, .undef, .undef, .undef, .undef, .undef, .undef, .undef, .undef, .undef, .undef, .undef, .undef, .undef, .undef, .undef, .undef, .undef, .undef, .undef, .undef, .undef, .undef, .undef, .undef, .undef, .undef, .undef, .undef, .undef, .undef, .undef, .undef, .undef, .undef, .undef, .undef, .undef, .undef], []⟩
noncomputable def internal_strconv_ParseUint_36_0_x3 {R : Type} (K : Ex → St → Option R) (q0 : Int) (q1 : Str) (q2 : Bool) : Option R := K (.ret) ⟨[.undef, .undef, .undef, .undef, .undef, .undef, .int .u64 q0, .ifi 184 .i64 1, .undef, .str q1, .undef, .undef, .bool q2, .undef, .undef, .undef, .undef, .undef, .undef, .undef, .undef, .undef, .undef, .undef, .undef, .undef, .undef, .undef, .undef, .undef, .undef, .undef, .undef, .undef, .undef, .undef, .undef, .undef, .undef, .undef, .undef, .undef, .undef, .undef, .undef, .undef, .undef, .undef, .undef, .undef, .undef, .undef, .undef, .undef, .undef, .undef, .undef, .undef, .undef, .undef, .undef, .undef, .undef, .undef, .undef, .undef, .undef, .undef, .undef, .undef, .undef, .undef, .undef, .undef, .undef, .undef, .undef, .undef, .undef, .undef, .undef, .undef, .undef, .undef, .undef, .undef, .undef, .undef, .undef, .undef, .undef, .undef, .undef, .undef, .undef, .undef, .undef, .undef, .undef, .undef, .undef, .undef, .undef, .undef, .undef, .undef, .undef, .undef, .undef, .undef, .undef, .undef, .undef, .undef, .undef, .undef, .undef, .undef, .undef, .undef, .undef, .undef, .undef, .undef, .undef, .undef, .undef, .undef, .undef, .undef, .undef, .undef, .undef, .undef, .undef, .undef, .undef, .undef, .undef, .undef, .undef, .undef, .undef, .undef, .undef, .undef, .undef, .undef, .undef, .undef, .undef, .undef, .undef, .undef, .undef, .undef, .undef, .undef, .undef, .undef, .undef, .undef, .undef, .undef, .undef, .undef, .undef, .undef, .undef, .undef, .undef, .undef], []⟩
noncomputable def internal_strconv_ParseUint_36_0_s {R : Type} (internal_strconv_lower : internal_strconv_lower_ty R) (K : Ex → St → Option R) (rc : internal_strconv_ParseUint_36_0_D → Option R) (d : internal_strconv_ParseUint_36_0_D) : Option R := internal_strconv_ParseUint_36_0_B internal_strconv_lower (fun z0 z1 z2 z3 z4 z5 z6 z7 z8 z9 z10 => rc (z0, z1, z2, z3, z4, z5, z6, z7, z8, z9, z10)) d.1 d.2.1 d.2.2.1 d.2.2.2.1 d.2.2.2.2.1 d.2.2.2.2.2.1 d.2.2.2.2.2.2.1 d.2.2.2.2.2.2.2.1 d.2.2.2.2.2.2.2.2.1 d.2.2.2.2.2.2.2.2.2.1 d.2.2.2.2.2.2.2.2.2.2 (internal_strconv_ParseUint_36_0_x0 K) (internal_strconv_ParseUint_36_0_x1 K) (internal_strconv_ParseUint_36_0_x2 K) (internal_strconv_ParseUint_36_0_x3 K)
noncomputable def internal_strconv_ParseUint_36_0_A {R : Type} (K : Ex → St → Option R) (n : Nat) (d : internal_strconv_ParseUint_36_0_D) : Option R := internal_strconv_ParseUint_36_0_L n d.1 d.2.1 d.2.2.1 d.2.2.2.1 d.2.2.2.2.1 d.2.2.2.2.2.1 d.2.2.2.2.2.2.1 d.2.2.2.2.2.2.2.1 d.2.2.2.2.2.2.2.2.1 d.2.2.2.2.2.2.2.2.2.1 d.2.2.2.2.2.2.2.2.2.2 (internal_strconv_ParseUint_36_0_x0 K) (internal_strconv_ParseUint_36_0_x1 K) (internal_strconv_ParseUint_36_0_x2 K) (internal_strconv_ParseUint_36_0_x3 K)
abbrev internal_strconv_ParseUint_36_0_p : List Pat := [.leaf (.undef), .leaf (.int .i64), .leaf (.undef), .leaf (.undef), .leaf (.undef), .leaf (.undef), .leaf (.undef), .leaf (.undef), .leaf (.bool), .leaf (.str), .leaf (.int .u64), .leaf (.int .u64), .leaf (.bool), .leaf (.int .u64), .leaf (.undef), .leaf (.undef), .leaf (.undef), .leaf (.undef), .leaf (.undef), .leaf (.undef), .leaf (.undef), .leaf (.undef), .leaf (.undef), .leaf (.undef), .leaf (.undef), .leaf (.undef), .leaf (.undef), .leaf (.undef), .leaf (.undef), .leaf (.undef), .leaf (.undef), .leaf (.undef), .leaf (.undef), .leaf (.undef), .leaf (.undef), .leaf (.undef), .leaf (.undef), .leaf (.undef), .leaf (.undef), .leaf (.undef), .leaf (.undef), .leaf (.undef), .leaf (.undef), .leaf (.undef), .leaf (.undef), .leaf (.undef), .leaf (.undef), .leaf (.undef), .leaf (.undef), .leaf (.undef), .leaf (.undef), .leaf (.undef), .leaf (.undef), .leaf (.undef), .leaf (.undef), .leaf (.undef), .leaf (.undef), .leaf (.undef), .leaf (.undef), .leaf (.undef), .leaf (.undef), .leaf (.undef), .leaf (.undef), .leaf (.undef), .leaf (.undef), .leaf (.undef), .leaf (.undef), .leaf (.undef), .leaf (.undef), .leaf (.undef), .leaf (.undef), .leaf (.undef), .leaf (.undef), .leaf (.undef), .leaf (.undef), .leaf (.undef), .leaf (.undef), .leaf (.undef), .leaf (.undef), .leaf (.undef), .leaf (.undef), .leaf (.undef), .leaf (.undef), .leaf (.undef), .leaf (.undef), .leaf (.undef), .leaf (.undef), .leaf (.undef), .leaf (.undef), .leaf (.undef), .leaf (.undef), .leaf (.undef), .leaf (.undef), .leaf (.undef), .leaf (.undef), .leaf (.undef), .leaf (.undef), .leaf (.undef), .leaf (.undef), .leaf (.row 0), .leaf (.int .i64), .leaf (.int .i64), .leaf (.undef), .leaf (.undef), .leaf (.undef), .leaf (.undef), .leaf (.undef), .leaf (.undef), .leaf (.undef), .leaf (.undef), .leaf (.undef), .leaf (.undef), .leaf (.undef), .leaf (.undef), .leaf (.undef), .leaf (.undef), .leaf (.undef), .leaf (.undef), .leaf (.undef), .leaf (.undef), .leaf (.undef), .leaf (.undef), .leaf (.undef), .leaf (.undef), .leaf (.undef), .leaf (.undef), .leaf (.undef), .leaf (.undef), .leaf (.undef), .leaf (.undef), .leaf (.undef), .leaf (.undef), .leaf (.undef), .leaf (.undef), .leaf (.undef), .leaf (.undef), .leaf (.undef), .leaf (.undef), .leaf (.undef), .leaf (.undef), .leaf (.undef), .leaf (.undef), .leaf (.undef), .leaf (.undef), .leaf (.undef), .leaf (.undef), .leaf (.undef), .leaf (.undef), .leaf (.undef), .leaf (.undef), .leaf (.undef), .leaf (.undef), .leaf (.undef), .leaf (.undef), .leaf (.undef), .leaf (.undef), .leaf (.undef), .leaf (.undef), .leaf (.undef), .leaf (.undef), .leaf (.undef), .leaf (.undef), .leaf (.undef), .leaf (.undef), .leaf (.undef), .leaf (.undef), .leaf (.undef), .leaf (.undef), .leaf (.undef), .leaf (.undef), .leaf (.undef), .leaf (.undef)]
abbrev internal_strconv_ParseUint_36_0_q : List HPat := [.row (.int .u8)]
noncomputable def internal_strconv_ParseUint_36_0_f (x : Pat.dens internal_strconv_ParseUint_36_0_p) (y : HPat.dens internal_strconv_ParseUint_36_0_q) : Nat := (Int.natAbs x.2.1 + List.length x.2.2.2.2.2.2.2.2.2.1 + Int.natAbs x.2.2.2.2.2.2.2.2.2.2.1 + Int.natAbs x.2.2.2.2.2.2.2.2.2.2.2.1 + Int.natAbs x.2.2.2.2.2.2.2.2.2.2.2.2.2.1 + Int.natAbs x.2.2.2.2.2.2.2.2.2.2.2.2.2.2.2.2.2.2.2.2.2.2.2.2.2.2.2.2.2.2.2.2.2.2.2.2.2.2.2.2.2.2.2.2.2.2.2.2.2.2.2.2.2.2.2.2.2.2.2.2.2.2.2.2.2.2.2.2.2.2.2.2.2.2.2.2.2.2.2.2.2.2.2.2.2.2.2.2.2.2.2.2.2.2.2.2.2.2.2.2.1 + Int.natAbs x.2.2.2.2.2.2.2.2.2.2.2.2.2.2.2.2.2.2.2.2.2.2.2.2.2.2.2.2.2.2.2.2.2.2.2.2.2.2.2.2.2.2.2.2.2.2.2.2.2.2.2.2.2.2.2.2.2.2.2.2.2.2.2.2.2.2.2.2.2.2.2.2.2.2.2.2.2.2.2.2.2.2.2.2.2.2.2.2.2.2.2.2.2.2.2.2.2.2.2.2.2.1 + List.length y.1 + 64)
noncomputable def internal_strconv_ParseUint_36_0_d (x : Pat.dens internal_strconv_ParseUint_36_0_p) (y : HPat.dens internal_strconv_ParseUint_36_0_q) : internal_strconv_ParseUint_36_0_D := (x.2.1, x.2.2.2.2.2.2.2.2.1, x.2.2.2.2.2.2.2.2.2.1, x.2.2.2.2.2.2.2.2.2.2.1, x.2.2.2.2.2.2.2.2.2.2.2.1, x.2.2.2.2.2.2.2.2.2.2.2.2.1, x.2.2.2.2.2.2.2.2.2.2.2.2.2.1, x.2.2.2.2.2.2.2.2.2.2.2.2.2.2.2.2.2.2.2.2.2.2.2.2.2.2.2.2.2.2.2.2.2.2.2.2.2.2.2.2.2.2.2.2.2.2.2.2.2.2.2.2.2.2.2.2.2.2.2.2.2.2.2.2.2.2.2.2.2.2.2.2.2.2.2.2.2.2.2.2.2.2.2.2.2.2.2.2.2.2.2.2.2.2.2.2.2.2.2.1, x.2.2.2.2.2.2.2.2.2.2.2.2.2.2.2.2.2.2.2.2.2.2.2.2.2.2.2.2.2.2.2.2.2.2.2.2.2.2.2.2.2.2.2.2.2.2.2.2.2.2.2.2.2.2.2.2.2.2.2.2.2.2.2.2.2.2.2.2.2.2.2.2.2.2.2.2.2.2.2.2.2.2.2.2.2.2.2.2.2.2.2.2.2.2.2.2.2.2.2.2.1, x.2.2.2.2.2.2.2.2.2.2.2.2.2.2.2.2.2.2.2.2.2.2.2.2.2.2.2.2.2.2.2.2.2.2.2.2.2.2.2.2.2.2.2.2.2.2.2.2.2.2.2.2.2.2.2.2.2.2.2.2.2.2.2.2.2.2.2.2.2.2.2.2.2.2.2.2.2.2.2.2.2.2.2.2.2.2.2.2.2.2.2.2.2.2.2.2.2.2.2.2.2.1, y.1)
noncomputable def internal_strconv_ParseUint_36_0_rr {R : Type} (L : internal_strconv_ParseUint_36_0_ty R) : Pat.dens internal_strconv_ParseUint_36_0_p → HPat.dens internal_strconv_ParseUint_36_0_q → (Ex → St → Option R) → Option R := fun x y K => L (internal_strconv_ParseUint_36_0_f x y) x.2.1 x.2.2.2.2.2.2.2.2.1 x.2.2.2.2.2.2.2.2.2.1 x.2.2.2.2.2.2.2.2.2.2.1 x.2.2.2.2.2.2.2.2.2.2.2.1 x.2.2.2.2.2.2.2.2.2.2.2.2.1 x.2.2.2.2.2.2.2.2.2.2.2.2.2.1 x.2.2.2.2.2.2.2.2.2.2.2.2.2.2.2.2.2.2.2.2.2.2.2.2.2.2.2.2.2.2.2.2.2.2.2.2.2.2.2.2.2.2.2.2.2.2.2.2.2.2.2.2.2.2.2.2.2.2.2.2.2.2.2.2.2.2.2.2.2.2.2.2.2.2.2.2.2.2.2.2.2.2.2.2.2.2.2.2.2.2.2.2.2.2.2.2.2.2.2.1 x.2.2.2.2.2.2.2.2.2.2.2.2.2.2.2.2.2.2.2.2.2.2.2.2.2.2.2.2.2.2.2.2.2.2.2.2.2.2.2.2.2.2.2.2.2.2.2.2.2.2.2.2.2.2.2.2.2.2.2.2.2.2.2.2.2.2.2.2.2.2.2.2.2.2.2.2.2.2.2.2.2.2.2.2.2.2.2.2.2.2.2.2.2.2.2.2.2.2.2.2.1 x.2.2.2.2.2.2.2.2.2.2.2.2.2.2.2.2.2.2.2.2.2.2.2.2.2.2.2.2.2.2.2.2.2.2.2.2.2.2.2.2.2.2.2.2.2.2.2.2.2.2.2.2.2.2.2.2.2.2.2.2.2.2.2.2.2.2.2.2.2.2.2.2.2.2.2.2.2.2.2.2.2.2.2.2.2.2.2.2.2.2.2.2.2.2.2.2.2.2.2.2.2.1 y.1 (internal_strconv_ParseUint_36_0_x0 K) (internal_strconv_ParseUint_36_0_x1 K) (internal_strconv_ParseUint_36_0_x2 K) (internal_strconv_ParseUint_36_0_x3 K)
noncomputable def internal_strconv_ParseUint_T (R : Type) (internal_strconv_ParseUint_36_0_L : internal_strconv_ParseUint_36_0_ty R) : Nat → Option (Hint × LSpec R) := fun i => match i with
  | 36 => some (internal_strconv_ParseUint_36_0_h, (loopBy internal_strconv_ParseUint_36_0_p internal_strconv_ParseUint_36_0_q (internal_strconv_ParseUint_36_0_rr internal_strconv_ParseUint_36_0_L) loopNo))
  | _ => none

theorem internal_strconv_ParseUint_36_0_B_ok {R : Type} (internal_strconv_lower : internal_strconv_lower_ty R) (internal_strconv_underscoreOK : internal_strconv_underscoreOK_ty R) (internal_strconv_ParseUint_36_0_L : internal_strconv_ParseUint_36_0_ty R) (K : Ex → St → Option R) (rc : St → Option R) (d : internal_strconv_ParseUint_36_0_D) : roundOf tt (internal_strconv_ParseUint_E R internal_strconv_lower internal_strconv_underscoreOK) (internal_strconv_ParseUint_T R internal_strconv_ParseUint_36_0_L) 0 ((loopsOf (codeOf Tryz.f169)).getD 0 .skip) internal_strconv_ParseUint_36_0_h (internal_strconv_ParseUint_36_0_enc d) rc K = internal_strconv_ParseUint_36_0_s internal_strconv_lower K (fun d => rc (internal_strconv_ParseUint_36_0_enc d)) d := by kernel_rfl
theorem internal_strconv_ParseUint_36_0_A_succ {R : Type} (K : Ex → St → Option R) (n : Nat) (d : internal_strconv_ParseUint_36_0_D) : internal_strconv_ParseUint_36_0_A K (n + 1) d = internal_strconv_ParseUint_36_0_s internal_strconv_lower K (internal_strconv_ParseUint_36_0_A K n) d := by kernel_rfl
theorem internal_strconv_ParseUint_36_0_A_zero {R : Type} (K : Ex → St → Option R) (d : internal_strconv_ParseUint_36_0_D) : internal_strconv_ParseUint_36_0_A K 0 d = none := by kernel_rfl
theorem internal_strconv_ParseUint_36_0_e_ok (x : Pat.dens internal_strconv_ParseUint_36_0_p) (y : HPat.dens internal_strconv_ParseUint_36_0_q) : (⟨Pat.encL internal_strconv_ParseUint_36_0_p x, HPat.encL internal_strconv_ParseUint_36_0_q y⟩ : St) = internal_strconv_ParseUint_36_0_enc (internal_strconv_ParseUint_36_0_d x y) := by kernel_rfl
theorem internal_strconv_ParseUint_36_0_r_ok {R : Type} (x : Pat.dens internal_strconv_ParseUint_36_0_p) (y : HPat.dens internal_strconv_ParseUint_36_0_q) (K : Ex → St → Option R) : internal_strconv_ParseUint_36_0_rr (internal_strconv_ParseUint_36_0_L) x y K = internal_strconv_ParseUint_36_0_A K (internal_strconv_ParseUint_36_0_f x y) (internal_strconv_ParseUint_36_0_d x y) := by kernel_rfl
theorem internal_strconv_ParseUint_36_0_ok {R : Type} (other : LSpec R) (ho : LsOk tt (internal_strconv_ParseUint_E R internal_strconv_lower internal_strconv_underscoreOK) (internal_strconv_ParseUint_T R internal_strconv_ParseUint_36_0_L) 0 ((loopsOf (codeOf Tryz.f169)).getD 0 .skip) internal_strconv_ParseUint_36_0_h other) : LsOk tt (internal_strconv_ParseUint_E R internal_strconv_lower internal_strconv_underscoreOK) (internal_strconv_ParseUint_T R internal_strconv_ParseUint_36_0_L) 0 ((loopsOf (codeOf Tryz.f169)).getD 0 .skip) internal_strconv_ParseUint_36_0_h (loopBy internal_strconv_ParseUint_36_0_p internal_strconv_ParseUint_36_0_q (internal_strconv_ParseUint_36_0_rr (internal_strconv_ParseUint_36_0_L)) other) :=
  loopBy_tie (A := internal_strconv_ParseUint_36_0_A) ho (loop_tie internal_strconv_ParseUint_36_0_enc (internal_strconv_ParseUint_36_0_s internal_strconv_lower) (internal_strconv_ParseUint_36_0_A) (internal_strconv_ParseUint_36_0_A_zero) (internal_strconv_ParseUint_36_0_B_ok internal_strconv_lower internal_strconv_underscoreOK internal_strconv_ParseUint_36_0_L) (internal_strconv_ParseUint_36_0_A_succ)) internal_strconv_ParseUint_36_0_f internal_strconv_ParseUint_36_0_d internal_strconv_ParseUint_36_0_e_ok (internal_strconv_ParseUint_36_0_r_ok)

noncomputable def internal_strconv_ParseUint_X {R : Type} (internal_strconv_lower : internal_strconv_lower_ty R) (internal_strconv_underscoreOK : internal_strconv_underscoreOK_ty R) (internal_strconv_ParseUint_36_0_L : internal_strconv_ParseUint_36_0_ty R) (x1 : Str) (x2 : Int) (x3 : Int) (k0 : Int → Option R) (k1 : Int → Option R) (k2 : Int → Option R) (k3 : Int → Option R) (k4 : Int → Option R) : Option R :=
  bif (x1 == ([] : Str)) then (k0 0) else (let j63 := fun (z15 : Str) (z16 : Int) => let j62 := fun (z18 : Int) => let j61 := fun (z19 : Int) => chk (decide ((0 : Int) ≤ (IntKind.u64.wrap z18))) (internal_strconv_ParseUint_36_0_L (Int.natAbs z16 + List.length x1 + Int.natAbs z19 + Int.natAbs (IntKind.u64.wrap ((IntKind.u64.wrap (1 * 2 ^ (min ((IntKind.u64.wrap z18).toNat) IntKind.u64.bits))) - 1)) + Int.natAbs 0 + Int.natAbs (z15.length : Int) + Int.natAbs 0 + List.length (bytesN z15) + 64) z16 (x2 == 0) x1 z19 (IntKind.u64.wrap ((IntKind.u64.wrap (1 * 2 ^ (min ((IntKind.u64.wrap z18).toNat) IntKind.u64.bits))) - 1)) false 0 z15.length (z15.length : Int) 0 (bytesN z15) (fun y45 y46 y47 => bif y46 then (internal_strconv_underscoreOK y45 (fun y59 => bif (!y59) then (k0 0) else (k4 y47))) else (k4 y47)) (fun y48 y49 y50 y51 => k0 y48) (fun y52 y53 y54 y55 => k3 y52) (fun y56 y57 y58 => k3 y56)); bif (z16 == 10) then (j61 1844674407370955162) else (bif (z16 == 16) then (j61 1152921504606846976) else (chk (!decide ((IntKind.u64.wrap z16) = 0)) (j61 (IntKind.u64.wrap ((IntKind.u64.wrap (Int.tdiv 18446744073709551615 (IntKind.u64.wrap z16))) + 1))))); bif (x3 == 0) then (j62 64) else (bif (decide (x3 < (0 : Int))) then (k2 0) else (bif (decide (x3 > (64 : Int))) then (k2 0) else (j62 x3))); let j14 := fun (z4 : Bool) => bif z4 then (j63 x1 x2) else (bif (x2 == 0) then (chk (decide ((0 : Int) < x1.length)) (bif (((x1.getD 0 0).toNat : Int) == 48) then (let j13 := fun (z6 : Bool) => bif z6 then (chk (decide ((0 : Int) ≤ (x1.length : Int)) && decide ((x1.length : Int) ≤ x1.length)) (chk (decide ((2 : Int) ≤ (x1.length : Int))) (j63 ((x1.drop 2).take ((x1.length : Int).toNat - 2)) 2))) else (let j12 := fun (z8 : Bool) => bif z8 then (chk (decide ((0 : Int) ≤ (x1.length : Int)) && decide ((x1.length : Int) ≤ x1.length)) (chk (decide ((2 : Int) ≤ (x1.length : Int))) (j63 ((x1.drop 2).take ((x1.length : Int).toNat - 2)) 8))) else (let j11 := fun (z10 : Bool) => bif z10 then (chk (decide ((0 : Int) ≤ (x1.length : Int)) && decide ((x1.length : Int) ≤ x1.length)) (chk (decide ((2 : Int) ≤ (x1.length : Int))) (j63 ((x1.drop 2).take ((x1.length : Int).toNat - 2)) 16))) else (chk (decide ((0 : Int) ≤ (x1.length : Int)) && decide ((x1.length : Int) ≤ x1.length)) (chk (decide ((1 : Int) ≤ (x1.length : Int))) (j63 ((x1.drop 1).take ((x1.length : Int).toNat - 1)) 8))); bif (decide ((x1.length : Int) ≥ (3 : Int))) then (chk (decide ((1 : Int) < x1.length)) (internal_strconv_lower ((x1.getD 1 0).toNat : Int) (fun y9 => j11 (y9 == 120)))) else (j11 false)); bif (decide ((x1.length : Int) ≥ (3 : Int))) then (chk (decide ((1 : Int) < x1.length)) (internal_strconv_lower ((x1.getD 1 0).toNat : Int) (fun y7 => j12 (y7 == 111)))) else (j12 false)); bif (decide ((x1.length : Int) ≥ (3 : Int))) then (chk (decide ((1 : Int) < x1.length)) (internal_strconv_lower ((x1.getD 1 0).toNat : Int) (fun y5 => j13 (y5 == 98)))) else (j13 false)) else (j63 x1 10))) else (k1 0)); bif (decide ((2 : Int) ≤ x2)) then (j14 (decide (x2 ≤ (36 : Int)))) else (j14 false))
noncomputable def internal_strconv_ParseUint {R : Type} : internal_strconv_ParseUint_ty R := fun x1 x2 x3 k0 k1 k2 k3 k4 => internal_strconv_ParseUint_X internal_strconv_lower internal_strconv_underscoreOK internal_strconv_ParseUint_36_0_L x1 x2 x3 k0 k1 k2 k3 k4
theorem internal_strconv_ParseUint_ok {R : Type} (internal_strconv_lower : internal_strconv_lower_ty R) (internal_strconv_underscoreOK : internal_strconv_underscoreOK_ty R) (internal_strconv_ParseUint_36_0_L : internal_strconv_ParseUint_36_0_ty R) (x1 : Str) (x2 : Int) (x3 : Int) (k : V → Heap → Option R) : funK tt (internal_strconv_ParseUint_E R internal_strconv_lower internal_strconv_underscoreOK) (internal_strconv_ParseUint_T R internal_strconv_ParseUint_36_0_L) false Tryz.f169 (codeOf Tryz.f169) [.str x1, .int .i64 x2, .int .i64 x3] [] k =
    internal_strconv_ParseUint_X internal_strconv_lower internal_strconv_underscoreOK internal_strconv_ParseUint_36_0_L x1 x2 x3 (fun q0 => k (.tuple [.int .u64 q0, .ifi 184 .i64 2]) []) (fun q0 => k (.tuple [.int .u64 q0, .ifi 184 .i64 3]) []) (fun q0 => k (.tuple [.int .u64 q0, .ifi 184 .i64 4]) []) (fun q0 => k (.tuple [.int .u64 q0, .ifi 184 .i64 1]) []) (fun q0 => k (.tuple [.int .u64 q0, .niliface]) []) := by kernel_rfl
theorem internal_strconv_ParseUint_loops (R : Type) : ∀ a ∈ loopsOf (codeOf Tryz.f169), LoopOk tt (internal_strconv_ParseUint_E R internal_strconv_lower internal_strconv_underscoreOK) (internal_strconv_ParseUint_T R internal_strconv_ParseUint_36_0_L) 0 a := by
  refine loops_ok 1 (by kernel_rfl) fun i hi => ?_
  match i, hi with
  | 0, _ => exact loopOk_some (by kernel_rfl) (internal_strconv_ParseUint_36_0_ok _ loopNo_ok)
  | n + 1, hi => omega
theorem internal_strconv_ParseUint_S_ok (R : Type) (other : Yard.Spec R) (ho : Yard.Spec.Ok Tryz.prog 169 other) : Yard.Spec.Ok Tryz.prog 169 (specBy internal_strconv_ParseUint_p internal_strconv_ParseUint_q (internal_strconv_ParseUint_rr internal_strconv_ParseUint) other) :=
  specBy_ok ho (funK_sound TT mixed (internal_strconv_ParseUint_EOk R) (keep := false) rfl rfl rfl rfl 0 (internal_strconv_ParseUint_loops R)) fun (x : Pat.dens internal_strconv_ParseUint_p) (y : HPat.dens internal_strconv_ParseUint_q) k => internal_strconv_ParseUint_ok internal_strconv_lower internal_strconv_underscoreOK internal_strconv_ParseUint_36_0_L x.1 x.2.1 x.2.2.1 k

end Go.Proofs.YtmlkkgfenfdndaaGreatDoor

/-
  Functions of the program as pure Lean functions, and the ties; printed by wip/tools/emit.py.
-/
set_option maxRecDepth 100000
set_option linter.unusedVariables false
namespace Go.Proofs.YtmlkkgfenfdndaaGreatDoor
open Go Go.Yard

/-! ### strconv.ParseUint -/
abbrev strconv_ParseUint_ty (R : Type) : Type := Str → Int → Int → (Int → Option R) → (Int → Option R) → Option R
abbrev strconv_ParseUint_p : List Pat := [.leaf (.str), .leaf (.int .i64), .leaf (.int .i64)]
abbrev strconv_ParseUint_q : List HPat := []
noncomputable def strconv_ParseUint_rr {R : Type} (fn : strconv_ParseUint_ty R) : Pat.dens strconv_ParseUint_p → HPat.dens strconv_ParseUint_q → (V → Heap → Option R) → Option R := fun x y k => fn x.1 x.2.1 x.2.2.1 (fun q0 => k (.tuple [.int .u64 q0, .iface]) []) (fun q0 => k (.tuple [.int .u64 q0, .niliface]) [])
noncomputable def strconv_ParseUint_E (R : Type) (internal_strconv_ParseUint : internal_strconv_ParseUint_ty R) : Env R := fun i => match i with
  | 136 => some (true, (toErr_S R 184))
  | 169 => some (true, (specBy internal_strconv_ParseUint_p internal_strconv_ParseUint_q (internal_strconv_ParseUint_rr internal_strconv_ParseUint) specNo))
  | _ => none
theorem strconv_ParseUint_EOk (R : Type) : EOk Tryz.prog (strconv_ParseUint_E R internal_strconv_ParseUint) := by
  intro i b sp h
  unfold strconv_ParseUint_E at h
  split at h
  · cases h; exact ⟨(toErr_ok), fun h => nomatch h⟩
  · cases h; exact ⟨(internal_strconv_ParseUint_S_ok R _ (specNo_ok _)), fun h => nomatch h⟩
  · cases h

noncomputable def strconv_ParseUint_T (R : Type) : Nat → Option (Hint × LSpec R) := fun i => match i with
  | _ => none

noncomputable def strconv_ParseUint_X {R : Type} (internal_strconv_ParseUint : internal_strconv_ParseUint_ty R) (x1 : Str) (x2 : Int) (x3 : Int) (k0 : Int → Option R) (k1 : Int → Option R) : Option R :=
  internal_strconv_ParseUint x1 x2 x3 (fun y4 => chk (Nat.beq 184 184 && (2 == 2 || 2 == 1)) (chk (decide (x1.length ≤ 281474976710656)) (k0 y4))) (fun y5 => chk (Nat.beq 184 184 && (3 == 2 || 3 == 1)) (chk (decide (x1.length ≤ 281474976710656)) (k0 y5))) (fun y6 => chk (Nat.beq 184 184 && (4 == 2 || 4 == 1)) (chk (decide (x1.length ≤ 281474976710656)) (k0 y6))) (fun y7 => chk (Nat.beq 184 184 && (1 == 2 || 1 == 1)) (chk (decide (x1.length ≤ 281474976710656)) (k0 y7))) (fun y8 => k1 y8)
noncomputable def strconv_ParseUint {R : Type} : strconv_ParseUint_ty R := fun x1 x2 x3 k0 k1 => strconv_ParseUint_X internal_strconv_ParseUint x1 x2 x3 k0 k1
theorem strconv_ParseUint_ok {R : Type} (internal_strconv_ParseUint : internal_strconv_ParseUint_ty R) (x1 : Str) (x2 : Int) (x3 : Int) (k : V → Heap → Option R) : funK tt (strconv_ParseUint_E R internal_strconv_ParseUint) (strconv_ParseUint_T R) false Tryz.f172 (codeOf Tryz.f172) [.str x1, .int .i64 x2, .int .i64 x3] [] k =
    strconv_ParseUint_X internal_strconv_ParseUint x1 x2 x3 (fun q0 => k (.tuple [.int .u64 q0, .iface]) []) (fun q0 => k (.tuple [.int .u64 q0, .niliface]) []) := by kernel_rfl
theorem strconv_ParseUint_loops (R : Type) : ∀ a ∈ loopsOf (codeOf Tryz.f172), LoopOk tt (strconv_ParseUint_E R internal_strconv_ParseUint) (strconv_ParseUint_T R) 0 a := by
  refine loops_ok 0 (by kernel_rfl) fun i hi => ?_
  omega
theorem strconv_ParseUint_S_ok (R : Type) (other : Yard.Spec R) (ho : Yard.Spec.Ok Tryz.prog 172 other) : Yard.Spec.Ok Tryz.prog 172 (specBy strconv_ParseUint_p strconv_ParseUint_q (strconv_ParseUint_rr strconv_ParseUint) other) :=
  specBy_ok ho (funK_sound TT mixed (strconv_ParseUint_EOk R) (keep := false) rfl rfl rfl rfl 0 (strconv_ParseUint_loops R)) fun (x : Pat.dens strconv_ParseUint_p) (y : HPat.dens strconv_ParseUint_q) k => strconv_ParseUint_ok internal_strconv_ParseUint x.1 x.2.1 x.2.2.1 k

/-! ### (*humpyard/quote.reader).unit -/
abbrev quote_reader_unit_abbd_ty (R : Type) : Type := Str → (Int → Str → Option R) → Option R
abbrev quote_reader_unit_abbd_p : List Pat := [.leaf (.ptr 0 0)]
abbrev quote_reader_unit_abbd_q : List HPat := [.cells [.str]]
noncomputable def quote_reader_unit_abbd_rr {R : Type} (fn : quote_reader_unit_abbd_ty R) : Pat.dens quote_reader_unit_abbd_p → HPat.dens quote_reader_unit_abbd_q → (V → Heap → Option R) → Option R := fun x y k => fn y.1.1 (fun q0 q1 => k (.int .i32 q0) [.cells [.str q1]])
noncomputable def quote_reader_unit_abbd_E (R : Type) (strconv_ParseUint : strconv_ParseUint_ty R) : Env R := fun i => match i with
  | 172 => some (true, (specBy strconv_ParseUint_p strconv_ParseUint_q (strconv_ParseUint_rr strconv_ParseUint) specNo))
  | 173 => some (true, (hasAny_S R))
  | _ => none
theorem quote_reader_unit_abbd_EOk (R : Type) : EOk Tryz.prog (quote_reader_unit_abbd_E R strconv_ParseUint) := by
  intro i b sp h
  unfold quote_reader_unit_abbd_E at h
  split at h
  · cases h; exact ⟨(strconv_ParseUint_S_ok R _ (specNo_ok _)), fun h => nomatch h⟩
  · cases h; exact ⟨(hasAny_ok), fun h => nomatch h⟩
  · cases h

noncomputable def quote_reader_unit_abbd_T (R : Type) : Nat → Option (Hint × LSpec R) := fun i => match i with
  | _ => none

noncomputable def quote_reader_unit_abbd_X {R : Type} (strconv_ParseUint : strconv_ParseUint_ty R) (x1 : Str) (k0 : Int → Str → Option R) : Option R :=
  bif (decide ((x1.length : Int) < (4 : Int))) then (k0 (-1) x1) else (chk (decide ((4 : Int) ≤ x1.length)) (strconv_ParseUint ((x1.drop 0).take (4 - 0)) 16 16 (fun y2 => k0 (-1) x1) (fun y3 => chk (isAsc ((x1.drop 0).take (4 - 0)) && isAsc ([43, 45, 95] : Str) && decide (((x1.drop 0).take (4 - 0)).length < 4294967281) && decide (([43, 45, 95] : Str).length < 4294967281)) (bif (hasAny ((x1.drop 0).take (4 - 0)) ([43, 45, 95] : Str)) then (k0 (-1) x1) else (chk (decide ((0 : Int) ≤ (x1.length : Int)) && decide ((x1.length : Int) ≤ x1.length)) (chk (decide ((4 : Int) ≤ (x1.length : Int))) (k0 (IntKind.i32.wrap y3) ((x1.drop 4).take ((x1.length : Int).toNat - 4)))))))))
noncomputable def quote_reader_unit_abbd {R : Type} : quote_reader_unit_abbd_ty R := fun x1 k0 => quote_reader_unit_abbd_X strconv_ParseUint x1 k0
theorem quote_reader_unit_abbd_ok {R : Type} (strconv_ParseUint : strconv_ParseUint_ty R) (x1 : Str) (k : V → Heap → Option R) : funK tt (quote_reader_unit_abbd_E R strconv_ParseUint) (quote_reader_unit_abbd_T R) false Tryz.f157 (codeOf Tryz.f157) [.ptr 0 0] [.cells [.str x1]] k =
    quote_reader_unit_abbd_X strconv_ParseUint x1 (fun q0 q1 => k (.int .i32 q0) [.cells [.str q1]]) := by kernel_rfl
theorem quote_reader_unit_abbd_loops (R : Type) : ∀ a ∈ loopsOf (codeOf Tryz.f157), LoopOk tt (quote_reader_unit_abbd_E R strconv_ParseUint) (quote_reader_unit_abbd_T R) 1 a := by
  refine loops_ok 0 (by kernel_rfl) fun i hi => ?_
  omega
theorem quote_reader_unit_abbd_S_ok (R : Type) (other : Yard.Spec R) (ho : Yard.Spec.Ok Tryz.prog 157 other) : Yard.Spec.Ok Tryz.prog 157 (specBy quote_reader_unit_abbd_p quote_reader_unit_abbd_q (quote_reader_unit_abbd_rr quote_reader_unit_abbd) other) :=
  specBy_ok ho (funK_sound TT mixed (quote_reader_unit_abbd_EOk R) (keep := false) rfl rfl rfl rfl 1 (quote_reader_unit_abbd_loops R)) fun (x : Pat.dens quote_reader_unit_abbd_p) (y : HPat.dens quote_reader_unit_abbd_q) k => quote_reader_unit_abbd_ok strconv_ParseUint y.1.1 k

/-! ### (*humpyard/quote.reader).long -/
abbrev quote_reader_long_abbd_ty (R : Type) : Type := Str → (Int → Str → Option R) → Option R
abbrev quote_reader_long_abbd_p : List Pat := [.leaf (.ptr 0 0)]
abbrev quote_reader_long_abbd_q : List HPat := [.cells [.str]]
noncomputable def quote_reader_long_abbd_rr {R : Type} (fn : quote_reader_long_abbd_ty R) : Pat.dens quote_reader_long_abbd_p → HPat.dens quote_reader_long_abbd_q → (V → Heap → Option R) → Option R := fun x y k => fn y.1.1 (fun q0 q1 => k (.int .i32 q0) [.cells [.str q1]])
noncomputable def quote_reader_long_abbd_E (R : Type) (quote_reader_skip_e74a : quote_reader_skip_e74a_ty R) (quote_reader_unit_abbd : quote_reader_unit_abbd_ty R) : Env R := fun i => match i with
  | 107 => some (false, (specBy quote_reader_skip_e74a_p quote_reader_skip_e74a_q (quote_reader_skip_e74a_rr quote_reader_skip_e74a) specNo))
  | 157 => some (false, (specBy quote_reader_unit_abbd_p quote_reader_unit_abbd_q (quote_reader_unit_abbd_rr quote_reader_unit_abbd) specNo))
  | _ => none
theorem quote_reader_long_abbd_EOk (R : Type) : EOk Tryz.prog (quote_reader_long_abbd_E R quote_reader_skip_e74a quote_reader_unit_abbd) := by
  intro i b sp h
  unfold quote_reader_long_abbd_E at h
  split at h
  · cases h; exact ⟨(quote_reader_skip_e74a_S_ok R _ (specNo_ok _)), fun _ h => nomatch h⟩
  · cases h; exact ⟨(quote_reader_unit_abbd_S_ok R _ (specNo_ok _)), fun _ h => nomatch h⟩
  · cases h

noncomputable def quote_reader_long_abbd_T (R : Type) : Nat → Option (Hint × LSpec R) := fun i => match i with
  | _ => none

noncomputable def quote_reader_long_abbd_X {R : Type} (quote_reader_skip_e74a : quote_reader_skip_e74a_ty R) (quote_reader_unit_abbd : quote_reader_unit_abbd_ty R) (x1 : Str) (k0 : Int → Str → Option R) : Option R :=
  quote_reader_unit_abbd x1 (fun y2 y3 => bif (decide (y2 < (55296 : Int))) then (k0 y2 y3) else (bif (decide (y2 ≥ (57344 : Int))) then (k0 y2 y3) else (bif (decide (y2 ≥ (56320 : Int))) then (k0 (-1) y3) else (quote_reader_skip_e74a ([92, 117] : Str) y3 (fun y5 y6 => bif (!y5) then (k0 (-1) y6) else (quote_reader_unit_abbd y6 (fun y9 y10 => bif (decide (y9 < (56320 : Int))) then (k0 (-1) y10) else (bif (decide (y9 ≥ (57344 : Int))) then (k0 (-1) y10) else (k0 (IntKind.i32.wrap ((IntKind.i32.wrap ((IntKind.i32.wrap (65536 + (IntKind.i32.wrap ((IntKind.i32.wrap (y2 - 55296)) * 2 ^ (min 10 IntKind.i32.bits))))) + y9)) - 56320)) y10)))))))))
noncomputable def quote_reader_long_abbd {R : Type} : quote_reader_long_abbd_ty R := fun x1 k0 => quote_reader_long_abbd_X quote_reader_skip_e74a quote_reader_unit_abbd x1 k0
theorem quote_reader_long_abbd_ok {R : Type} (quote_reader_skip_e74a : quote_reader_skip_e74a_ty R) (quote_reader_unit_abbd : quote_reader_unit_abbd_ty R) (x1 : Str) (k : V → Heap → Option R) : funK tt (quote_reader_long_abbd_E R quote_reader_skip_e74a quote_reader_unit_abbd) (quote_reader_long_abbd_T R) false Tryz.f138 (codeOf Tryz.f138) [.ptr 0 0] [.cells [.str x1]] k =
    quote_reader_long_abbd_X quote_reader_skip_e74a quote_reader_unit_abbd x1 (fun q0 q1 => k (.int .i32 q0) [.cells [.str q1]]) := by kernel_rfl
theorem quote_reader_long_abbd_loops (R : Type) : ∀ a ∈ loopsOf (codeOf Tryz.f138), LoopOk tt (quote_reader_long_abbd_E R quote_reader_skip_e74a quote_reader_unit_abbd) (quote_reader_long_abbd_T R) 1 a := by
  refine loops_ok 0 (by kernel_rfl) fun i hi => ?_
  omega
theorem quote_reader_long_abbd_S_ok (R : Type) (other : Yard.Spec R) (ho : Yard.Spec.Ok Tryz.prog 138 other) : Yard.Spec.Ok Tryz.prog 138 (specBy quote_reader_long_abbd_p quote_reader_long_abbd_q (quote_reader_long_abbd_rr quote_reader_long_abbd) other) :=
  specBy_ok ho (funK_sound TT mixed (quote_reader_long_abbd_EOk R) (keep := false) rfl rfl rfl rfl 1 (quote_reader_long_abbd_loops R)) fun (x : Pat.dens quote_reader_long_abbd_p) (y : HPat.dens quote_reader_long_abbd_q) k => quote_reader_long_abbd_ok quote_reader_skip_e74a quote_reader_unit_abbd y.1.1 k

/-! ### (*humpyard/quote.reader).escaped -/
abbrev quote_reader_escaped_abbd_ty (R : Type) : Type := Str → (Int → Str → Option R) → Option R
abbrev quote_reader_escaped_abbd_p : List Pat := [.leaf (.ptr 0 0)]
abbrev quote_reader_escaped_abbd_q : List HPat := [.cells [.str]]
noncomputable def quote_reader_escaped_abbd_rr {R : Type} (fn : quote_reader_escaped_abbd_ty R) : Pat.dens quote_reader_escaped_abbd_p → HPat.dens quote_reader_escaped_abbd_q → (V → Heap → Option R) → Option R := fun x y k => fn y.1.1 (fun q0 q1 => k (.int .i32 q0) [.cells [.str q1]])
noncomputable def quote_reader_escaped_abbd_E (R : Type) (quote_reader_long_abbd : quote_reader_long_abbd_ty R) : Env R := fun i => match i with
  | 138 => some (false, (specBy quote_reader_long_abbd_p quote_reader_long_abbd_q (quote_reader_long_abbd_rr quote_reader_long_abbd) specNo))
  | _ => none
theorem quote_reader_escaped_abbd_EOk (R : Type) : EOk Tryz.prog (quote_reader_escaped_abbd_E R quote_reader_long_abbd) := by
  intro i b sp h
  unfold quote_reader_escaped_abbd_E at h
  split at h
  · cases h; exact ⟨(quote_reader_long_abbd_S_ok R _ (specNo_ok _)), fun _ h => nomatch h⟩
  · cases h

noncomputable def quote_reader_escaped_abbd_T (R : Type) : Nat → Option (Hint × LSpec R) := fun i => match i with
  | _ => none

noncomputable def quote_reader_escaped_abbd_X {R : Type} (quote_reader_long_abbd : quote_reader_long_abbd_ty R) (x1 : Str) (k0 : Int → Str → Option R) : Option R :=
  bif (x1 == ([] : Str)) then (k0 (-1) x1) else (chk (decide ((0 : Int) < x1.length)) (chk (decide ((0 : Int) ≤ (x1.length : Int)) && decide ((x1.length : Int) ≤ x1.length)) (chk (decide ((1 : Int) ≤ (x1.length : Int))) (let j5 := fun (z2 : Bool) => bif z2 then (k0 (IntKind.i32.wrap ((x1.getD 0 0).toNat : Int)) ((x1.drop 1).take ((x1.length : Int).toNat - 1))) else (bif (((x1.getD 0 0).toNat : Int) == 98) then (k0 8 ((x1.drop 1).take ((x1.length : Int).toNat - 1))) else (bif (((x1.getD 0 0).toNat : Int) == 102) then (k0 12 ((x1.drop 1).take ((x1.length : Int).toNat - 1))) else (bif (((x1.getD 0 0).toNat : Int) == 110) then (k0 10 ((x1.drop 1).take ((x1.length : Int).toNat - 1))) else (bif (((x1.getD 0 0).toNat : Int) == 114) then (k0 13 ((x1.drop 1).take ((x1.length : Int).toNat - 1))) else (bif (((x1.getD 0 0).toNat : Int) == 116) then (k0 9 ((x1.drop 1).take ((x1.length : Int).toNat - 1))) else (bif (((x1.getD 0 0).toNat : Int) == 117) then (quote_reader_long_abbd ((x1.drop 1).take ((x1.length : Int).toNat - 1)) (fun y3 y4 => k0 y3 y4)) else (k0 (-1) ((x1.drop 1).take ((x1.length : Int).toNat - 1))))))))); bif (((x1.getD 0 0).toNat : Int) == 34) then (j5 (((x1.getD 0 0).toNat : Int) == 34)) else (bif (((x1.getD 0 0).toNat : Int) == 92) then (j5 (((x1.getD 0 0).toNat : Int) == 92)) else (j5 (((x1.getD 0 0).toNat : Int) == 47)))))))
noncomputable def quote_reader_escaped_abbd {R : Type} : quote_reader_escaped_abbd_ty R := fun x1 k0 => quote_reader_escaped_abbd_X quote_reader_long_abbd x1 k0
theorem quote_reader_escaped_abbd_ok {R : Type} (quote_reader_long_abbd : quote_reader_long_abbd_ty R) (x1 : Str) (k : V → Heap → Option R) : funK tt (quote_reader_escaped_abbd_E R quote_reader_long_abbd) (quote_reader_escaped_abbd_T R) false Tryz.f109 (codeOf Tryz.f109) [.ptr 0 0] [.cells [.str x1]] k =
    quote_reader_escaped_abbd_X quote_reader_long_abbd x1 (fun q0 q1 => k (.int .i32 q0) [.cells [.str q1]]) := by kernel_rfl
theorem quote_reader_escaped_abbd_loops (R : Type) : ∀ a ∈ loopsOf (codeOf Tryz.f109), LoopOk tt (quote_reader_escaped_abbd_E R quote_reader_long_abbd) (quote_reader_escaped_abbd_T R) 1 a := by
  refine loops_ok 0 (by kernel_rfl) fun i hi => ?_
  omega
theorem quote_reader_escaped_abbd_S_ok (R : Type) (other : Yard.Spec R) (ho : Yard.Spec.Ok Tryz.prog 109 other) : Yard.Spec.Ok Tryz.prog 109 (specBy quote_reader_escaped_abbd_p quote_reader_escaped_abbd_q (quote_reader_escaped_abbd_rr quote_reader_escaped_abbd) other) :=
  specBy_ok ho (funK_sound TT mixed (quote_reader_escaped_abbd_EOk R) (keep := false) rfl rfl rfl rfl 1 (quote_reader_escaped_abbd_loops R)) fun (x : Pat.dens quote_reader_escaped_abbd_p) (y : HPat.dens quote_reader_escaped_abbd_q) k => quote_reader_escaped_abbd_ok quote_reader_long_abbd y.1.1 k

/-! ### unicode/utf8.appendRuneNonASCII -/
abbrev unicode_utf8_appendRuneNonASCII_7b6c_ty (R : Type) : Type := (List Int) → Int → ((List Int) → Option R) → Option R
abbrev unicode_utf8_appendRuneNonASCII_7b6c_p : List Pat := [.leaf (.slo (.int .u8) 0), .leaf (.int .i32)]
abbrev unicode_utf8_appendRuneNonASCII_7b6c_q : List HPat := [.tok]
noncomputable def unicode_utf8_appendRuneNonASCII_7b6c_rr {R : Type} (fn : unicode_utf8_appendRuneNonASCII_7b6c_ty R) : Pat.dens unicode_utf8_appendRuneNonASCII_7b6c_p → HPat.dens unicode_utf8_appendRuneNonASCII_7b6c_q → (V → Heap → Option R) → Option R := fun x y k => fn x.1 x.2.1 (fun q0 => k (.sl (.int .u8) q0 (.own 1)) [.dead, .tok])
noncomputable def unicode_utf8_appendRuneNonASCII_7b6c_E (R : Type) : Env R := fun i => match i with
  | _ => none
theorem unicode_utf8_appendRuneNonASCII_7b6c_EOk (R : Type) : EOk Tryz.prog (unicode_utf8_appendRuneNonASCII_7b6c_E R) := by
  intro i b sp h
  unfold unicode_utf8_appendRuneNonASCII_7b6c_E at h
  split at h
  · cases h

noncomputable def unicode_utf8_appendRuneNonASCII_7b6c_T (R : Type) : Nat → Option (Hint × LSpec R) := fun i => match i with
  | _ => none

noncomputable def unicode_utf8_appendRuneNonASCII_7b6c_X {R : Type} (x1 : List Int) (x2 : Int) (k0 : (List Int) → Option R) : Option R :=
  bif (decide ((IntKind.u32.wrap x2) ≤ (2047 : Int))) then (chk (decide ((x1.length + 2) * 1 ≤ 140737488355328)) (k0 ((x1 : List Int) ++ (([(IntKind.u8.wrap ((BitVec.ofInt IntKind.u8.bits 192 ||| BitVec.ofInt IntKind.u8.bits (IntKind.u8.wrap (Int.fdiv x2 (2 ^ (min 6 IntKind.i32.bits))))).toNat : Int)), (IntKind.u8.wrap ((BitVec.ofInt IntKind.u8.bits 128 ||| BitVec.ofInt IntKind.u8.bits (IntKind.u8.wrap ((BitVec.ofInt IntKind.u8.bits (IntKind.u8.wrap x2) &&& BitVec.ofInt IntKind.u8.bits 63).toNat : Int))).toNat : Int))] : List Int) : List Int)))) else (let j6 := fun (z3 : Bool) => bif z3 then (chk (decide ((x1.length + 3) * 1 ≤ 140737488355328)) (k0 ((x1 : List Int) ++ (([(IntKind.u8.wrap ((BitVec.ofInt IntKind.u8.bits 224 ||| BitVec.ofInt IntKind.u8.bits (IntKind.u8.wrap (Int.fdiv x2 (2 ^ (min 12 IntKind.i32.bits))))).toNat : Int)), (IntKind.u8.wrap ((BitVec.ofInt IntKind.u8.bits 128 ||| BitVec.ofInt IntKind.u8.bits (IntKind.u8.wrap ((BitVec.ofInt IntKind.u8.bits (IntKind.u8.wrap (Int.fdiv x2 (2 ^ (min 6 IntKind.i32.bits)))) &&& BitVec.ofInt IntKind.u8.bits 63).toNat : Int))).toNat : Int)), (IntKind.u8.wrap ((BitVec.ofInt IntKind.u8.bits 128 ||| BitVec.ofInt IntKind.u8.bits (IntKind.u8.wrap ((BitVec.ofInt IntKind.u8.bits (IntKind.u8.wrap x2) &&& BitVec.ofInt IntKind.u8.bits 63).toNat : Int))).toNat : Int))] : List Int) : List Int)))) else (let j5 := fun (z4 : Bool) => bif z4 then (chk (decide ((x1.length + 4) * 1 ≤ 140737488355328)) (k0 ((x1 : List Int) ++ (([(IntKind.u8.wrap ((BitVec.ofInt IntKind.u8.bits 240 ||| BitVec.ofInt IntKind.u8.bits (IntKind.u8.wrap (Int.fdiv x2 (2 ^ (min 18 IntKind.i32.bits))))).toNat : Int)), (IntKind.u8.wrap ((BitVec.ofInt IntKind.u8.bits 128 ||| BitVec.ofInt IntKind.u8.bits (IntKind.u8.wrap ((BitVec.ofInt IntKind.u8.bits (IntKind.u8.wrap (Int.fdiv x2 (2 ^ (min 12 IntKind.i32.bits)))) &&& BitVec.ofInt IntKind.u8.bits 63).toNat : Int))).toNat : Int)), (IntKind.u8.wrap ((BitVec.ofInt IntKind.u8.bits 128 ||| BitVec.ofInt IntKind.u8.bits (IntKind.u8.wrap ((BitVec.ofInt IntKind.u8.bits (IntKind.u8.wrap (Int.fdiv x2 (2 ^ (min 6 IntKind.i32.bits)))) &&& BitVec.ofInt IntKind.u8.bits 63).toNat : Int))).toNat : Int)), (IntKind.u8.wrap ((BitVec.ofInt IntKind.u8.bits 128 ||| BitVec.ofInt IntKind.u8.bits (IntKind.u8.wrap ((BitVec.ofInt IntKind.u8.bits (IntKind.u8.wrap x2) &&& BitVec.ofInt IntKind.u8.bits 63).toNat : Int))).toNat : Int))] : List Int) : List Int)))) else (chk (decide ((x1.length + 3) * 1 ≤ 140737488355328)) (k0 ((x1 : List Int) ++ (([239, 191, 189] : List Int) : List Int)))); bif (decide ((IntKind.u32.wrap x2) > (65535 : Int))) then (j5 (decide ((IntKind.u32.wrap x2) ≤ (1114111 : Int)))) else (j5 false)); bif (decide ((IntKind.u32.wrap x2) < (55296 : Int))) then (j6 (decide ((IntKind.u32.wrap x2) < (55296 : Int)))) else (bif (decide ((57343 : Int) < (IntKind.u32.wrap x2))) then (j6 (decide ((IntKind.u32.wrap x2) ≤ (65535 : Int)))) else (j6 false)))
noncomputable def unicode_utf8_appendRuneNonASCII_7b6c {R : Type} : unicode_utf8_appendRuneNonASCII_7b6c_ty R := fun x1 x2 k0 => unicode_utf8_appendRuneNonASCII_7b6c_X x1 x2 k0
theorem unicode_utf8_appendRuneNonASCII_7b6c_ok {R : Type} (x1 : List Int) (x2 : Int) (k : V → Heap → Option R) : funK tt (unicode_utf8_appendRuneNonASCII_7b6c_E R) (unicode_utf8_appendRuneNonASCII_7b6c_T R) true Tryz.f113 (codeOf Tryz.f113) [.sl (.int .u8) x1 (.own 0), .int .i32 x2] [.tok] k =
    unicode_utf8_appendRuneNonASCII_7b6c_X x1 x2 (fun q0 => k (.sl (.int .u8) q0 (.own 1)) [.dead, .tok]) := by kernel_rfl
theorem unicode_utf8_appendRuneNonASCII_7b6c_loops (R : Type) : ∀ a ∈ loopsOf (codeOf Tryz.f113), LoopOk tt (unicode_utf8_appendRuneNonASCII_7b6c_E R) (unicode_utf8_appendRuneNonASCII_7b6c_T R) 1 a := by
  refine loops_ok 0 (by kernel_rfl) fun i hi => ?_
  omega
theorem unicode_utf8_appendRuneNonASCII_7b6c_S_ok (R : Type) (other : Yard.Spec R) (ho : Yard.Spec.Ok Tryz.prog 113 other) : Yard.Spec.Ok Tryz.prog 113 (specBy unicode_utf8_appendRuneNonASCII_7b6c_p unicode_utf8_appendRuneNonASCII_7b6c_q (unicode_utf8_appendRuneNonASCII_7b6c_rr unicode_utf8_appendRuneNonASCII_7b6c) other) :=
  specBy_ok ho (funK_sound TT mixed (unicode_utf8_appendRuneNonASCII_7b6c_EOk R) (keep := true) rfl rfl rfl rfl 1 (unicode_utf8_appendRuneNonASCII_7b6c_loops R)) fun (x : Pat.dens unicode_utf8_appendRuneNonASCII_7b6c_p) (y : HPat.dens unicode_utf8_appendRuneNonASCII_7b6c_q) k => unicode_utf8_appendRuneNonASCII_7b6c_ok x.1 x.2.1 k

/-! ### unicode/utf8.AppendRune -/
abbrev unicode_utf8_AppendRune_7b6c_ty (R : Type) : Type := (List Int) → Int → ((List Int) → Option R) → Option R
abbrev unicode_utf8_AppendRune_7b6c_p : List Pat := [.leaf (.slo (.int .u8) 0), .leaf (.int .i32)]
abbrev unicode_utf8_AppendRune_7b6c_q : List HPat := [.tok]
noncomputable def unicode_utf8_AppendRune_7b6c_rr {R : Type} (fn : unicode_utf8_AppendRune_7b6c_ty R) : Pat.dens unicode_utf8_AppendRune_7b6c_p → HPat.dens unicode_utf8_AppendRune_7b6c_q → (V → Heap → Option R) → Option R := fun x y k => fn x.1 x.2.1 (fun q0 => k (.sl (.int .u8) q0 (.own 1)) [.dead, .tok])
noncomputable def unicode_utf8_AppendRune_7b6c_E (R : Type) (unicode_utf8_appendRuneNonASCII_7b6c : unicode_utf8_appendRuneNonASCII_7b6c_ty R) : Env R := fun i => match i with
  | 113 => some (false, (specBy unicode_utf8_appendRuneNonASCII_7b6c_p unicode_utf8_appendRuneNonASCII_7b6c_q (unicode_utf8_appendRuneNonASCII_7b6c_rr unicode_utf8_appendRuneNonASCII_7b6c) specNo))
  | _ => none
theorem unicode_utf8_AppendRune_7b6c_EOk (R : Type) : EOk Tryz.prog (unicode_utf8_AppendRune_7b6c_E R unicode_utf8_appendRuneNonASCII_7b6c) := by
  intro i b sp h
  unfold unicode_utf8_AppendRune_7b6c_E at h
  split at h
  · cases h; exact ⟨(unicode_utf8_appendRuneNonASCII_7b6c_S_ok R _ (specNo_ok _)), fun _ h => nomatch h⟩
  · cases h

noncomputable def unicode_utf8_AppendRune_7b6c_T (R : Type) : Nat → Option (Hint × LSpec R) := fun i => match i with
  | _ => none

noncomputable def unicode_utf8_AppendRune_7b6c_X {R : Type} (unicode_utf8_appendRuneNonASCII_7b6c : unicode_utf8_appendRuneNonASCII_7b6c_ty R) (x1 : List Int) (x2 : Int) (k0 : (List Int) → Option R) : Option R :=
  bif (decide ((IntKind.u32.wrap x2) ≤ (127 : Int))) then (chk (decide ((x1.length + 1) * 1 ≤ 140737488355328)) (k0 ((x1 : List Int) ++ (([(IntKind.u8.wrap x2)] : List Int) : List Int)))) else (unicode_utf8_appendRuneNonASCII_7b6c x1 x2 (fun y3 => k0 y3))
noncomputable def unicode_utf8_AppendRune_7b6c {R : Type} : unicode_utf8_AppendRune_7b6c_ty R := fun x1 x2 k0 => unicode_utf8_AppendRune_7b6c_X unicode_utf8_appendRuneNonASCII_7b6c x1 x2 k0
theorem unicode_utf8_AppendRune_7b6c_ok {R : Type} (unicode_utf8_appendRuneNonASCII_7b6c : unicode_utf8_appendRuneNonASCII_7b6c_ty R) (x1 : List Int) (x2 : Int) (k : V → Heap → Option R) : funK tt (unicode_utf8_AppendRune_7b6c_E R unicode_utf8_appendRuneNonASCII_7b6c) (unicode_utf8_AppendRune_7b6c_T R) true Tryz.f74 (codeOf Tryz.f74) [.sl (.int .u8) x1 (.own 0), .int .i32 x2] [.tok] k =
    unicode_utf8_AppendRune_7b6c_X unicode_utf8_appendRuneNonASCII_7b6c x1 x2 (fun q0 => k (.sl (.int .u8) q0 (.own 1)) [.dead, .tok]) := by kernel_rfl
theorem unicode_utf8_AppendRune_7b6c_loops (R : Type) : ∀ a ∈ loopsOf (codeOf Tryz.f74), LoopOk tt (unicode_utf8_AppendRune_7b6c_E R unicode_utf8_appendRuneNonASCII_7b6c) (unicode_utf8_AppendRune_7b6c_T R) 1 a := by
  refine loops_ok 0 (by kernel_rfl) fun i hi => ?_
  omega
theorem unicode_utf8_AppendRune_7b6c_S_ok (R : Type) (other : Yard.Spec R) (ho : Yard.Spec.Ok Tryz.prog 74 other) : Yard.Spec.Ok Tryz.prog 74 (specBy unicode_utf8_AppendRune_7b6c_p unicode_utf8_AppendRune_7b6c_q (unicode_utf8_AppendRune_7b6c_rr unicode_utf8_AppendRune_7b6c) other) :=
  specBy_ok ho (funK_sound TT mixed (unicode_utf8_AppendRune_7b6c_EOk R) (keep := true) rfl rfl rfl rfl 1 (unicode_utf8_AppendRune_7b6c_loops R)) fun (x : Pat.dens unicode_utf8_AppendRune_7b6c_p) (y : HPat.dens unicode_utf8_AppendRune_7b6c_q) k => unicode_utf8_AppendRune_7b6c_ok unicode_utf8_appendRuneNonASCII_7b6c x.1 x.2.1 k

end Go.Proofs.YtmlkkgfenfdndaaGreatDoor

