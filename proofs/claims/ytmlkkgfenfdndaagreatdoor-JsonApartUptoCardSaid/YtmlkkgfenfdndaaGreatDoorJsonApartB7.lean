/-
  JsonApart, part 7 of 10.
-/
import Derived.Test.YtmlkkgfenfdndaaGreatDoorCards
import Derived.Test.YtmlkkgfenfdndaaGreatDoorTie
import Derived.Lib.LaidU8T
import Derived.Stop.LaidErr
import Derived.Deep.DeepHandedRow
import Derived.Deep.DeepWitnessRowRef
import Derived.WalkKit
import Derived.ProofKit
import Derived.OpenShut
import Derived.KernelRfl
import Derived.Lib.ValidU
import Derived.Lib.ItoaLen
import Derived.Lib.Repeat
import Derived.Lib.AtoiAll
import Derived.Lib.IndexAny
import Derived.Lib.Bytealg
import Derived.Lib.SlTrimSet
import Derived.Lib.ValidLaws
import Derived.Lib.MapLaws
import Derived.Lib.TrimUEq
import Derived.Lib.RuneBytes
import Derived.Sort.Grow
import Derived.Shelf.Strings.BuilderX
import Derived.Test.YtmlkkgfenfdndaaGreatDoorJsonApartB6
set_option linter.unusedSimpArgs false
set_option linter.unnecessarySimpa false
set_option linter.unusedVariables false
set_option linter.unusedSectionVars false
set_option maxRecDepth 100000
namespace Go.Proofs.YtmlkkgfenfdndaaGreatDoor.Door
open Go Go.Lib Go.RowKit Go.ChangeShapes Go.Yard
theorem own : ownKnob Tryz.prog.godebug = none := by kernel_rfl
theorem leaves : LeavesOk Tryz.prog Go.Proofs.YtmlkkgfenfdndaaGreatDoor.tt := leaves_ok (by kernel_rfl)
theorem gSyn : Tryz.prog.globalNamed "strconv.ErrSyntax" = some 4 := by kernel_rfl
theorem gRng : Tryz.prog.globalNamed "strconv.ErrRange" = some 5 := by kernel_rfl
theorem tSyn : (Tryz.prog.globals[4]?).map (·.type) = some 94 := by kernel_rfl
theorem tRng : (Tryz.prog.globals[5]?).map (·.type) = some 94 := by kernel_rfl
theorem star : "*" ++ "errors.errorString" = "*errors.errorString" := by decide
theorem rowErr (u : TypeId) (h : Tryz.prog.typeName? 3 u = some "*errors.errorString") : u = 204 :=
  typeName_ptr_named (nm := "errors.errorString") (by rw [star]; kernel_rfl) (by kernel_rfl) (by decide) u (by rw [star]; exact h)
theorem lt_of_var {n : String} {g : Nat} {W : World} {cs : Array Value} (hg : Tryz.prog.globalNamed n = some g) (h : W.var? Tryz.prog n = some cs) : g < W.heap.size := by
  unfold World.var? at h
  simp only [hg, Option.bind_some] at h
  rcases Nat.lt_or_ge g W.heap.size with h' | h'
  · exact h'
  · simp [Array.getElem?_eq_none h'] at h
theorem lay_met {W : World} (h : laidMet Tryz.prog Rows.topTextsUptoRow.laid W) : lay0.says W ∧ ∀ b, lay0.blocks b → b < W.heap.size := by
  have r0 : VarReads Tryz.prog W "unicode/utf8.first" firstData := laidMet.reads h (.tail _ (.tail _ (.tail _ (.tail _ (.tail _ (.tail _ (.head _)))))))
  have r1 : VarReads Tryz.prog W "unicode/utf8.acceptRanges" acceptData := laidMet.reads h (.tail _ (.tail _ (.tail _ (.head _))))
  have ht : Utf8Tabs 1 2 W := utf8Tabs_of_readsT (U8Types.of196 Tryz.lay196) ⟨by kernel_rfl, by kernel_rfl, by kernel_rfl, by kernel_rfl, by kernel_rfl, by kernel_rfl, by kernel_rfl⟩ r0 r1
  have h2 := laidMet.tail (laidMet.tail h)
  have hp : TabIs Tryz.prog W "internal/strconv.uint64pow10" .u64 pow10Tab := tabIs_of_head (t := 192) (e := 165) (n := 20) lay_pow10 (by kernel_rfl) (by kernel_rfl) (by kernel_rfl) (by kernel_rfl) (by kernel_rfl) h2
  have h4 := laidMet.tail (laidMet.tail h2)
  obtain ⟨a3, s3, v3, _⟩ := laid_sentinel (ms := #[("Error", 75)]) (f := { name := "s", type := 9, offset := 0, embedded := false, tag := "", pkgPath := "errors", byteOffset := 0 }) (te := 206) (ts := 9) h4 gRng tRng (by kernel_rfl) rowErr (by kernel_rfl) (by kernel_rfl) rfl rfl (by kernel_rfl) (by kernel_rfl) (by kernel_rfl)
  obtain ⟨a2, s2, v2, _⟩ := laid_sentinel (ms := #[("Error", 75)]) (f := { name := "s", type := 9, offset := 0, embedded := false, tag := "", pkgPath := "errors", byteOffset := 0 }) (te := 206) (ts := 9) (laidMet.tail h4) gSyn tSyn (by kernel_rfl) rowErr (by kernel_rfl) (by kernel_rfl) rfl rfl (by kernel_rfl) (by kernel_rfl) (by kernel_rfl)
  refine ⟨⟨ht, hp, ⟨_, _, World.var?_cell gSyn v2 0⟩, ⟨_, _, World.var?_cell gRng v3 0⟩⟩, fun b hb => ?_⟩
  have hb : b < 8 := hb
  obtain ⟨g, t, cs, fuel, p, hg, _, hv, _⟩ : VarReads Tryz.prog W "math/bits.deBruijn64tab" Rows.laid_math_bits_deBruijn64tab := laidMet.reads h (.tail _ (.head _))
  have e : (some 7 : Option Nat) = some g := (by kernel_rfl : Tryz.prog.globalNamed "math/bits.deBruijn64tab" = some 7).symm.trans hg
  cases e
  have l4 := lt_of_var hg hv
  omega
abbrev synS : ByteArray := { data := #[105, 110, 118, 97, 108, 105, 100, 32, 115, 121, 110, 116, 97, 120] }
abbrev rngS : ByteArray := { data := #[118, 97, 108, 117, 101, 32, 111, 117, 116, 32, 111, 102, 32, 114, 97, 110, 103, 101] }
noncomputable def low : Nat := (World.holding Tryz.prog default ⟨#[], #[], []⟩).heap.size
def lit1 : DataW Unit → Value
  | .lit (.int k n) => .int k n
  | _ => .int .u8 0
def litsOf : DataW Unit → List Value
  | .agg l => l.map lit1
  | _ => []
noncomputable def laidWorld (os : Os) : World :=
  let w0 := World.holding Tryz.prog os ⟨#[.cells #[.string synS] 206, .cells #[.string rngS] 206], #[], []⟩
  let put (h : Array Obj) (g : Nat) (cs : Array Value) : Array Obj := h.modify g fun
    | .cells _ t frozen => .cells cs t frozen
    | o => o
  let h0 := put w0.heap 1 (firstTab.map fun z => Value.int .u8 z).toArray
  let h1 := put h0 2 ((List.range 16).flatMap fun i => [Value.int .u8 (accLo i), Value.int .u8 (accHi i)]).toArray
  let h2 := put h1 4 #[.iface 204 (.pointer (some ⟨low, 0, none⟩))]
  let h3 := put h2 5 #[.iface 204 (.pointer (some ⟨low + 1, 0, none⟩))]
  let h4 := put h3 3 (pow10Tab.map fun z => Value.int .u64 z).toArray
  let h6 := put h4 6 (litsOf Rows.laid_math_bits_deBruijn32tab).toArray
  let h7 := put h6 7 (litsOf Rows.laid_math_bits_deBruijn64tab).toArray
  { w0 with heap := h7 }
theorem laid_met (os : Os) (args : Array Value) : laidMet Tryz.prog Rows.topTextsUptoRow.laid ((laidWorld os).forCall (fun _ _ => 0) ⟨#[], args, []⟩).memory :=
  laidMet_of_run' 8 (by kernel_rfl) (by kernel_rfl)
end Go.Proofs.YtmlkkgfenfdndaaGreatDoor.Door
set_option maxRecDepth 100000
namespace Go.Proofs.YtmlkkgfenfdndaaGreatDoor
open Go Go.Yard
end Go.Proofs.YtmlkkgfenfdndaaGreatDoor
namespace Go.Yard
open Go.RowKit
section
variable {P : Program} {tt : TTab} {w w' : World} {h h' : Heap} {c c' : Cfg} {R : Type}
theorem below_ext (hb : Below w.heap.size w w') : Ext w h c w' h c where
  os := hb.os
  tape := hb.tape
  output := hb.output
  size := hb.size
  used := fun _ hi => hi
  same := fun i hi hd => ⟨sim_refl (live_of hi.2 hd) (fun _ _ _ => .inr trivial), rfl, rfl⟩
  cell := fun b x hx _ => blocks_cell (hb.block b hx)
  block := fun b hx _ => hb.block b hx
  owns := fun _ _ _ ho => ho
  ext := rfl
  arr := fun b arr e fz hx => ⟨arr, fz, by rw [hb.block b (lt_heap hx)]; exact hx, rfl⟩
theorem below_wf (wf : WF w h c) (hb : Below w.heap.size w w') : WF w' h c where
  disj := wf.disj
  extlt := fun b x he => Nat.lt_of_lt_of_le (wf.extlt b x he) hb.size
  obj := fun i hi => by
    by_cases hl : (h.at i).live
    · exact (wf.obj i hi).keep (below_ext hb) (fun b hb' => hb.block b ((wf.obj i hi).lt hl hb')) rfl rfl
    · have h0 : h.at i = .free ∨ h.at i = .dead := by revert hl; cases h.at i <;> simp [AObj.live]
      rcases h0 with h0 | h0 <;> rw [h0] <;> trivial
  inj := wf.inj
  lay := wf.lay_ext (below_ext hb)
theorem callsTo_of {g : Nat} {fn : Func} (hf : P.funcs[g]? = some fn) (hn : (fn.name == "runtime.NumGoroutine") = false) (hb : fn.body.isNone = false) {args : Array Value} {Q : Value → World → Prop}
    (h : Calls P g args w fun e w' => ∃ d, e = .returned d ∧ Q d w') : CallsTo P g args w Q := by
  refine ⟨.enter g args, w, ?_, h⟩
  have hn' : fn.name ≠ "runtime.NumGoroutine" := by simpa using hn
  have hb' : fn.body ≠ none := fun e => by rw [e] at hb; cases hb
  simp [callFunc, hf, hn', hb']
theorem hand_plain {g : Nat} {fn : Func} (hf : P.funcs[g]? = some fn) (hn : (fn.name == "runtime.NumGoroutine") = false) (hb : fn.body.isNone = false) {sp : Spec R}
    (hs : ∀ vs hp k r, sp vs hp k = some r → ∀ (w : World) (c : Cfg) (args : Array Value), WF w hp c → RepL w hp c vs args.toList →
      ∃ v, k v hp = some r ∧ Calls P g args w fun e w' => ∃ d, e = .returned d ∧ Below w.heap.size w w' ∧ Rep w' hp c v d) : Spec.Ok P g sp := by
  intro vs hp k r hk w c args wf ra
  obtain ⟨v, hv, hc⟩ := hs vs hp k r hk w c args wf ra
  refine callsTo_of hf hn hb (Calls.mono hc ?_)
  rintro e w' ⟨d, he, hbl, hr⟩
  exact ⟨d, he, v, hp, c, below_wf wf hbl, below_ext hbl, hr, hv⟩
theorem repL1 {v : V} {args : Array Value} (ra : RepL w h c [v] args.toList) : ∃ d, args = #[d] ∧ Rep w h c v d := by
  obtain ⟨l⟩ := args
  match l, ra with
  | [d], ra => exact ⟨d, rfl, ra.head⟩
  | [], ra => have := ra.1; simp at this
  | _ :: _ :: _, ra => have := ra.1; simp at this
theorem repL2 {u v : V} {args : Array Value} (ra : RepL w h c [u, v] args.toList) : ∃ d e, args = #[d, e] ∧ Rep w h c u d ∧ Rep w h c v e := by
  obtain ⟨l⟩ := args
  match l, ra with
  | [d, e], ra => exact ⟨d, e, rfl, ra.head, ra.tail.head⟩
  | [], ra => have := ra.1; simp at this
  | [_], ra => have := ra.1; simp at this
  | _ :: _ :: _ :: _, ra => have := ra.1; simp at this
end
section
variable {P : Program} {tt : TTab} {w w' : World} {h h' : Heap} {c c' : Cfg} {R : Type}
def bcc_S (R : Type) : Spec R := fun vs h k =>
  match vs with
  | [.ptr i 0] => (match h.at i with | .bld _ => k (.tuple []) h | _ => none)
  | _ => none
theorem bld_place {i : Nat} {v : V} {a' : Value} (wf : WF w h c) (ra : Rep w h c (.ptr i 0) a') (hv : h.at i = .bld v) :
    ∃ b p d, a' = .pointer (some ⟨b, 0, none⟩) ∧ c.blk i = some b ∧ w.heap[b]? = some (Obj.cells #[p, d] lay0.bld (0, 0)) ∧ (p = .pointer none ∨ p = .pointer (some ⟨b, 0, none⟩)) ∧ Rep w h c v d := by
  have hi := Heap.at_live hv (by simp)
  have ho := wf.obj i hi
  rw [hv] at ho
  obtain ⟨b, p, d, g1, g2, g3, g4⟩ := ho
  cases ra with
  | ptr hu hq =>
    obtain ⟨b', rfl, hb'⟩ := hq
    have := hb' (by rw [hv]; simp)
    rw [g1] at this; cases this
    exact ⟨b, p, d, rfl, g1, g2, g3, g4⟩
theorem bcc_ok {g : Nat} {fn : Func} (hf : P.funcs[g]? = some fn) (hn : (fn.name == "runtime.NumGoroutine") = false) (hb : fn.body.isNone = false)
    (fresh : ∀ (b : Nat) (w : World), w.cell? ⟨b, 0, none⟩ = some (.pointer none) → w.shape? b = some (lay0.bld, 2) → w.frozen? ⟨b, 0, none⟩ = false →
      Calls P g #[.pointer (some ⟨b, 0, none⟩)] w fun e w' => e = .returned (.tuple #[]) ∧ w' = w.setCell ⟨b, 0, none⟩ (.pointer (some ⟨b, 0, none⟩)))
    (used : ∀ (b : Nat) (w : World), w.cell? ⟨b, 0, none⟩ = some (.pointer (some ⟨b, 0, none⟩)) → Calls P g #[.pointer (some ⟨b, 0, none⟩)] w fun e w' => e = .returned (.tuple #[]) ∧ w' = w) : Spec.Ok P g (bcc_S R) := by
  intro vs h k r hk w c args wf ra
  unfold bcc_S at hk
  split at hk <;> try (first | cases hk)
  rename_i i
  split at hk <;> try (first | cases hk)
  rename_i v hv
  obtain ⟨a', rfl, r1⟩ := repL1 ra
  obtain ⟨b, p, d, rfl, g1, g2, g3, g4⟩ := bld_place wf r1 hv
  have hc0 : w.cell? ⟨b, 0, none⟩ = some p := by rw [cell_of_row w b _ _ _ _ g2]; rfl
  have rt : ∀ w' h' c', Rep w' h' c' (.tuple []) (.tuple #[]) := fun w' h' c' => .tuple rfl (fun j v d hv => by simp at hv)
  rcases g3 with rfl | rfl
  · refine callsTo_of hf hn hb (Calls.mono (fresh b w hc0 (by simp [World.shape?, g2]) (frozen_none g2 0)) ?_)
    rintro e w' ⟨he, rfl⟩
    have hb' : (w.setCell ⟨b, 0, none⟩ (.pointer (some ⟨b, 0, none⟩))).heap[b]? = some (.cells #[.pointer (some ⟨b, 0, none⟩), d] lay0.bld (0, 0)) := by
      simp [World.setCell, Array.getElem?_modify, g2]
    have hw : Wrote w (w.setCell ⟨b, 0, none⟩ (.pointer (some ⟨b, 0, none⟩))) b #[.pointer (some ⟨b, 0, none⟩), d] lay0.bld (0, 0) := ⟨rfl, rfl, rfl, by simp, fun k hk => heap_setCell_other w _ k _ hk, hb'⟩
    have hfrom : (h.at i).from_ (c.off i) = some 0 := by rw [hv]; rfl
    have hsim : (h.at i).sim (.bld v) := by rw [hv]; trivial
    have hset : h.set i (.bld v) = h := by
      have hi := Heap.at_live hv (by simp)
      have e : h[i] = .bld v := by
        have := hv
        unfold Heap.at at this
        simpa [List.getD, List.getElem?_eq_getElem hi] using this
      rw [← e]
      exact List.set_getElem_self hi
    have x := upd_ext g1 g2 hw rfl hfrom rfl hsim
    have q := upd_wf wf g1 g2 hw rfl hfrom rfl hsim ⟨b, _, d, g1, hb', .inr rfl, g4.mono x⟩
    rw [hset] at x q
    exact ⟨_, he, _, h, c, q, x, rt _ _ _, hk⟩
  · refine callsTo_of hf hn hb (Calls.mono (used b w hc0) ?_)
    rintro e w' ⟨he, rfl⟩
    exact ⟨_, he, _, h, c, wf, .refl _ _ _, rt _ _ _, hk⟩
def bstr (l : List Int) : Str := l.map fun n => UInt8.ofNat n.toNat
theorem bstr_len (l : List Int) : (bstr l).length = l.length := List.length_map _
theorem bstr_get (l : List Int) (m : Nat) (x : UInt8) (h : (bstr l)[m]? = some x) : ∃ n, l[m]? = some n ∧ x = UInt8.ofNat n.toNat := by
  unfold bstr at h
  rw [List.getElem?_map] at h
  cases hm : l[m]? with
  | none => rw [hm] at h; cases h
  | some n => rw [hm] at h; simp at h; exact ⟨n, rfl, h.symm⟩
def bstr_S (R : Type) : Spec R := fun vs h k =>
  match vs with
  | [.ptr i 0] =>
    (match h.at i with
     | .bld .nilsl => k (.str []) h
     | .bld (.sl (.int .u8) l (.own j)) => (match h.at j with | .tok => k (.str (bstr l)) h | _ => none)
     | _ => none)
  | _ => none
theorem bstr_soft : SoftSpec (bstr_S R) := by
  intro vs h k k' he
  unfold bstr_S
  split <;> try rfl
  split <;> try (first | rfl | exact he _)
  split <;> first | rfl | exact he _
theorem freeze_wf (wf : WF w h c) {j g : Nat} (hj : h.at j = .tok) (hg : c.blk j = some g) {cur : Array Value} {e : TypeId} {fz fz' : Nat × Nat} (h1 : w.heap[g]? = some (.cells cur e fz))
    (hos : w'.os = w.os) (htape : w'.tape = w.tape) (hout : w'.output = w.output) (hsize : w'.heap.size = w.heap.size) (hoth : ∀ k, k ≠ g → w'.heap[k]? = w.heap[k]?) (h2 : w'.heap[g]? = some (.cells cur e fz'))
    (hfz : (fz.1 = fz.2 ∨ fz.2 ≤ c.off j) → (fz'.1 = fz'.2 ∨ fz'.2 ≤ c.off j)) :
    WF w' h c ∧ Ext w h c w' h c := by
  have hjl := Heap.at_live hj (by simp)
  have hown : Owns h c g (c.off j) := ⟨j, c.off j, hg, by rw [hj]; rfl, Nat.le_refl _⟩
  have hcell : ∀ b x, w'.cell? ⟨b, x, none⟩ = w.cell? ⟨b, x, none⟩ := fun b x => by
    by_cases hb : b = g
    · subst hb; rw [cell_of_row w' b x cur e fz' h2, cell_of_row w b x cur e fz h1]
    · exact blocks_cell (hoth b hb)
  have x : Ext w h c w' h c := {
    os := hos
    tape := htape
    output := hout
    size := by omega
    used := (Ext.refl w h c).used
    same := (Ext.refl w h c).same
    cell := fun b x _ _ => hcell b x
    block := fun b _ ho => hoth b (by rintro rfl; exact ho _ hown)
    owns := (Ext.refl w h c).owns
    ext := rfl
    arr := fun b arr el fz0 hb => by
      by_cases hbg : b = g
      · subst hbg; rw [h1] at hb; cases hb; exact ⟨cur, fz', h2, rfl⟩
      · exact ⟨arr, fz0, by rw [hoth b hbg]; exact hb, rfl⟩ }
  refine ⟨?_, x⟩
  exact {
    lay := wf.lay_ext x
    disj := wf.disj
    extlt := fun b y he => by rw [hsize]; exact wf.extlt b y he
    obj := fun i hi => by
      by_cases hij : i = j
      · subst hij
        have := wf.obj i hi
        rw [hj] at this ⊢
        rcases this with h0 | ⟨b', arr', e', fz0, p1, p2, p3, p4⟩
        · rw [hg] at h0; cases h0
        · rw [hg] at p1; cases p1
          rw [h1] at p2; cases p2
          exact .inr ⟨g, cur, e, fz', hg, h2, p3, hfz p4⟩
      · by_cases hl : (h.at i).live
        · refine (wf.obj i hi).keep x (fun b hb => hoth b ?_) rfl rfl
          rintro rfl
          exact hij (wf.inj i j b hl (by rw [hj]; trivial) hb hg)
        · have h0 : h.at i = .free ∨ h.at i = .dead := by revert hl; cases h.at i <;> simp [AObj.live]
          rcases h0 with h0 | h0 <;> rw [h0] <;> trivial
    inj := wf.inj }
theorem freeze_facts {q n : Nat} {cur : Array Value} {e : TypeId} {fz : Nat × Nat} (hn : n ≠ 0) (hq : w.heap[q]? = some (.cells cur e fz)) :
    (w.drew.freeze ⟨q, 0, none⟩ n).os = w.os ∧ (w.drew.freeze ⟨q, 0, none⟩ n).tape = w.tape ∧ (w.drew.freeze ⟨q, 0, none⟩ n).output = w.output ∧ (w.drew.freeze ⟨q, 0, none⟩ n).heap.size = w.heap.size ∧
      (∀ k, k ≠ q → (w.drew.freeze ⟨q, 0, none⟩ n).heap[k]? = w.heap[k]?) ∧ ∃ fz', (w.drew.freeze ⟨q, 0, none⟩ n).heap[q]? = some (.cells cur e fz') ∧ ∀ o, n ≤ o → (fz.1 = fz.2 ∨ fz.2 ≤ o) → (fz'.1 = fz'.2 ∨ fz'.2 ≤ o) := by
  obtain ⟨lo, hi⟩ := fz
  unfold World.freeze
  rw [if_neg hn]
  refine ⟨rfl, rfl, rfl, Array.size_modify, fun k hk => ?_, (if lo == hi then (0, 0 + n) else (min lo 0, max hi (0 + n))), ?_, fun o ho hf => ?_⟩
  · simp only [Array.getElem?_modify]
    rw [if_neg (Ne.symm hk)]
    rfl
  · simp only [Array.getElem?_modify, if_true]
    rw [show w.drew.heap[q]? = some (.cells cur e (lo, hi)) from hq]
    rfl
  · simp only at hf
    split
    · exact .inr (by simp; omega)
    · rename_i hne
      have : lo ≠ hi := by simpa using hne
      exact .inr (by simp; omega)
theorem u8_of {n : Int} (hn : IntKind.u8.has n) : ((UInt8.ofNat n.toNat).toNat : Int) = n := by
  have : 0 ≤ n ∧ n ≤ 255 := by simpa [IntKind.has, IntKind.min, IntKind.max, IntKind.signed, IntKind.bits] using hn
  simp only [UInt8.toNat_ofNat']
  omega
structure StringDoes (P : Program) (g : Nat) : Prop where
  nil : ∀ (b : Nat) (p : Value) (w : World), w.heap[b]? = some (.cells #[p, .slice none 0 0] lay0.bld (0, 0)) →
    Calls P g #[.pointer (some ⟨b, 0, none⟩)] w fun e w' => e = .returned (.string ⟨#[]⟩) ∧ Below w.heap.size w w'
  noroom : ∀ (b q : Nat) (p : Value) (cur : Array Value) (fz : Nat × Nat) (w : World), w.heap[b]? = some (.cells #[p, .slice (some ⟨q, 0, none⟩) 0 0] lay0.bld (0, 0)) → w.heap[q]? = some (.cells cur lay0.u8 fz) →
    Calls P g #[.pointer (some ⟨b, 0, none⟩)] w fun e w' => e = .returned (.string ⟨#[]⟩) ∧ Below w.heap.size w w'
  room : ∀ (b q cap : Nat) (p : Value) (w : World), cap ≠ 0 → w.heap[b]? = some (.cells #[p, .slice (some ⟨q, 0, none⟩) 0 cap] lay0.bld (0, 0)) →
    Calls P g #[.pointer (some ⟨b, 0, none⟩)] w fun e w' => e = .returned (.string ⟨#[]⟩) ∧ Below w.heap.size w w'
  some : ∀ (b q cap : Nat) (p : Value) (cur : Array Value) (fz : Nat × Nat) (l : List UInt8) (w : World), l ≠ [] → w.heap[b]? = some (.cells #[p, .slice (some ⟨q, 0, none⟩) l.length cap] lay0.bld (0, 0)) →
    w.heap[q]? = some (.cells cur lay0.u8 fz) → l.length ≤ cap → cap ≤ mx → l.length ≤ cur.size → (∀ (j : Nat) (x : UInt8), l[j]? = some x → w.cell? ⟨q, j, none⟩ = some (.int .u8 x.toNat)) →
    Calls P g #[.pointer (some ⟨b, 0, none⟩)] w fun e w' => e = .returned (.string ⟨l.toArray⟩) ∧ w' = w.drew.freeze ⟨q, 0, none⟩ l.length
theorem bstr_ok {g : Nat} {fn : Func} (hf : P.funcs[g]? = some fn) (hn : (fn.name == "runtime.NumGoroutine") = false) (hb : fn.body.isNone = false) (D : StringDoes P g) : Spec.Ok P g (bstr_S R) := by
  intro vs h k r hk w c args wf ra
  unfold bstr_S at hk
  split at hk <;> try (first | cases hk)
  rename_i i
  obtain ⟨a', rfl, r1⟩ := repL1 ra
  have empty : ∀ {w' : World} {h' : Heap} {c' : Cfg}, Rep w' h' c' (.str []) (.string ⟨#[]⟩) := fun {w' h' c'} => rep_str ⟨#[]⟩ rfl (Nat.zero_le _)
  split at hk <;> try (first | cases hk)
  · rename_i hv
    obtain ⟨b, p, d, rfl, g1, g2, g3, g4⟩ := bld_place wf r1 hv
    cases g4
    refine callsTo_of hf hn hb (Calls.mono (D.nil b p w g2) ?_)
    rintro e w' ⟨he, hbl⟩
    exact ⟨_, he, _, h, c, below_wf wf hbl, below_ext hbl, empty, hk⟩
  · rename_i l j hv
    split at hk <;> try (first | cases hk)
    rename_i hj
    obtain ⟨b, p, d, rfl, g1, g2, g3, g4⟩ := bld_place wf r1 hv
    have hi := Heap.at_live hv (by simp)
    have hij : j ≠ i := by rintro rfl; rw [hj] at hv; cases hv
    have hu8 : ∀ x ∈ (l : List Int), IntKind.u8.has x := by
      intro x hx
      cases g4 with
      | sl f hcap hmx hc hr hnil hown =>
        obtain ⟨m, hm⟩ := List.mem_iff_getElem?.1 hx
        exact (hr m 0 x (.int .u8 x) hm rfl).int_inv.2
    have hlen : (bstr l).length = List.length (α := Int) l := bstr_len l
    cases g4 with
    | @sl _ _ _ A cap f hcap hmx hc hr hnil hown =>
      obtain ⟨_, ho⟩ := hown j rfl
      have hcap' : List.length (α := Int) l ≤ cap := hcap
      have hrep : ∀ (w' : World) (h' : Heap) (c' : Cfg), Rep w' h' c' (.str (bstr l)) (.string ⟨(bstr l).toArray⟩) := fun w' h' c' => rep_str _ rfl (by rw [hlen]; exact Nat.le_trans hcap hmx)
      rcases ho hj with ⟨e1, rfl, rfl⟩ | ⟨q, o, cur, e, fz, e1, rfl, e3, e4, e5, e6⟩
      · have hl0 : l = [] := List.eq_nil_of_length_eq_zero (Nat.le_zero.1 hcap)
        subst hl0
        refine callsTo_of hf hn hb (Calls.mono (D.nil b p w g2) ?_)
        rintro e w' ⟨he, hbl⟩
        exact ⟨_, he, _, h, c, below_wf wf hbl, below_ext hbl, hrep _ _ _, hk⟩
      · obtain ⟨rfl, rfl⟩ := e6 rfl
        by_cases hl0 : l = []
        · subst hl0
          by_cases hc0 : cap = 0
          · subst hc0
            refine callsTo_of hf hn hb (Calls.mono (D.noroom b q p cur fz w g2 e4) ?_)
            rintro e w' ⟨he, hbl⟩
            exact ⟨_, he, _, h, c, below_wf wf hbl, below_ext hbl, hrep _ _ _, hk⟩
          · refine callsTo_of hf hn hb (Calls.mono (D.room b q cap p w hc0 g2) ?_)
            rintro e w' ⟨he, hbl⟩
            exact ⟨_, he, _, h, c, below_wf wf hbl, below_ext hbl, hrep _ _ _, hk⟩
        · have hbl : bstr l ≠ [] := fun e => hl0 (List.eq_nil_of_length_eq_zero (hlen.symm.trans (by rw [e]; rfl)))
          have e5' : 0 + cap * 1 ≤ cur.size := e5
          have hcells : ∀ (m : Nat) (x : UInt8), (bstr l)[m]? = some x → w.cell? ⟨q, m, none⟩ = some (.int .u8 x.toNat) := by
            intro m x hx
            obtain ⟨n, hm, rfl⟩ := bstr_get l m x hx
            have hml : m < List.length (α := Int) l := (List.getElem?_eq_some_iff.1 hm).1
            obtain ⟨b', o', hA, hcell, _⟩ := hc m 0 hml (by simp [Ty.sz])
            cases hA
            have hrn := hr m 0 n (.int .u8 n) hm rfl
            rw [hrn.int_inv.1] at hcell
            rw [u8_of hrn.int_inv.2]
            simpa [Ty.sz] using hcell
          have g2' : w.heap[b]? = some (.cells #[p, .slice (some ⟨q, 0, none⟩) (bstr l).length cap] lay0.bld (0, 0)) := by rw [hlen]; exact g2
          refine callsTo_of hf hn hb (Calls.mono (D.some b q cap p cur fz (bstr l) w hbl g2' e4 (by rw [hlen]; exact hcap) hmx (by rw [hlen]; omega) hcells) ?_)
          rintro e w' ⟨he, rfl⟩
          have hne0 : (bstr l).length ≠ 0 := by simpa using hbl
          obtain ⟨f1, f2, f3, f4, f5, fz', f6, f7⟩ := freeze_facts hne0 e4
          obtain ⟨q1, q2⟩ := freeze_wf wf hj e1 e4 f1 f2 f3 f4 f5 f6 (f7 _ (by rw [e3, hlen]; simp [Ty.sz]; exact Nat.le_refl _))
          exact ⟨_, he, _, h, c, q1, q2, hrep _ _ _, hk⟩
end
def isAsc (s : Str) : Bool := s.all fun b => decide (b.toNat < 128)
def validS (s : Str) : Bool := Go.Lib.validD s
def decRune (s : Str) : Nat × Nat := if s.isEmpty then (65533, 0) else Utf8.decode ⟨s.toArray⟩ 0
def itoaS (n : Int) : Str := Go.Lib.itoa n
def repS (s : Str) (n : Int) : Str := Go.Lib.repeatL s n.toNat
def trimL (s cs : Str) : Str := s.dropWhile (cs.contains ·)
def trimR (s cs : Str) : Str := (s.reverse.dropWhile (cs.contains ·)).reverse
def atoiOk (s : Str) : Bool := match Go.Lib.atoiAll s with | .ok _ => true | _ => false
def atoiVal (s : Str) : Int := match Go.Lib.atoiAll s with | .ok v => v | .range => Go.Lib.atoiSat s | _ => 0
def hasAny (s cs : Str) : Bool := Go.Lib.containsAny s cs
def idxByte (s : Str) (c : Int) : Int := Go.Lib.indexByte s c.toNat.toUInt8
section
variable (R : Type)
def valid_S : Spec R := fun vs h k => match vs with | [.str s] => k (.bool (validS s)) h | _ => none
def dec_S : Spec R := fun vs h k => match vs with | [.str s] => k (.tuple [.int .i32 (decRune s).1, .int .i64 (decRune s).2]) h | _ => none
def itoa_S : Spec R := fun vs h k => match vs with | [.int .i64 n] => k (.str (itoaS n)) h | _ => none
def rep_S : Spec R := fun vs h k => match vs with | [.str s, .int .i64 n] => chk (decide (0 ≤ n) && decide ((s.length : Int) * n ≤ 140737488355328)) (k (.str (repS s n)) h) | _ => none
def trimL_S : Spec R := fun vs h k => match vs with | [.str s, .str cs] => chk (isAsc cs && decide (cs.length < 4294967281)) (k (.str (trimL s cs)) h) | _ => none
def trimR_S : Spec R := fun vs h k => match vs with | [.str s, .str cs] => chk (isAsc cs && decide (cs.length < 4294967281)) (k (.str (trimR s cs)) h) | _ => none
def atoi_S : Spec R := fun vs h k => match vs with
  | [.str s] => chk (decide (s.length ≤ 281474976710656)) (bif atoiOk s then k (.tuple [.int .i64 (atoiVal s), .niliface]) h else k (.tuple [.int .i64 (atoiVal s), .iface]) h)
  | _ => none
def toErr_S (T : Nat) : Spec R := fun vs h k => match vs with
  | [.str _, .str s, .int .i64 _, .int .i64 _, .ifi t .i64 n] => chk (Nat.beq t T && (n == 2 || n == 1)) (chk (decide (s.length ≤ 281474976710656)) (k .iface h))
  | _ => none
def hasAny_S : Spec R := fun vs h k => match vs with
  | [.str s, .str cs] => chk (isAsc s && isAsc cs && decide (s.length < 4294967281) && decide (cs.length < 4294967281)) (k (.bool (hasAny s cs)) h)
  | _ => none
def idx_S : Spec R := fun vs h k => match vs with | [.str s, .int .u8 c] => k (.int .i64 (idxByte s c)) h | _ => none
end
section
variable {P : Program} {w w' : World} {h : Heap} {c : Cfg} {R : Type}
open Go.Lib
theorem asc_get {s : Str} (hs : isAsc s = true) : ∀ (j : Nat) (b : UInt8), s[j]? = some b → b.toNat < 128 := by
  intro j b hb
  have := List.all_eq_true.1 hs b (List.mem_of_getElem? hb)
  simpa using this
theorem drop_le (p : UInt8 → Bool) : ∀ s : Str, (s.dropWhile p).length ≤ s.length
  | [] => Nat.le_refl _
  | b :: s => by
    rw [List.dropWhile_cons]
    split
    · have := drop_le p s; simp; omega
    · exact Nat.le_refl _
theorem str_of (l : Str) (h' : l.length ≤ mx) : Rep w h c (.str l) (.string ⟨l.toArray⟩) := rep_str _ rfl h'
theorem ret_mono {g : Nat} {args : Array Value} {Q : Ending → World → Prop} {v : V} (hc : Calls P g args w Q)
    (hq : ∀ e w', Q e w' → ∃ d, e = .returned d ∧ Below w.heap.size w w' ∧ Rep w' h c v d) : Calls P g args w fun e w' => ∃ d, e = .returned d ∧ Below w.heap.size w w' ∧ Rep w' h c v d := Calls.mono hc fun e w' q => hq e w' q
end
end Go.Yard
set_option maxRecDepth 100000
namespace Go.Yard
open Go.Lib
def vr (c : Nat) : Prop := c < 55296 ∨ (57344 ≤ c ∧ c ≤ 1114111)
instance (c : Nat) : Decidable (vr c) := inferInstanceAs (Decidable (_ ∨ _))
def enc (c : Nat) : Str := encodeRune (c : Int)
theorem enc1 {c : Nat} (h : c < 128) : enc c = [UInt8.ofNat c] := by
  unfold enc encodeRune encodeRuneZ
  rw [if_pos (by omega)]
  rfl
theorem enc2 {c : Nat} (h0 : 128 ≤ c) (h : c < 2048) : enc c = [UInt8.ofNat (192 + c / 64), UInt8.ofNat (128 + c % 64)] := by
  unfold enc encodeRune encodeRuneZ
  rw [if_neg (by omega), if_pos (by omega)]
  have e1 : (192 + (c : Int) / 64).toNat = 192 + c / 64 := by omega
  have e2 : (128 + (c : Int) % 64).toNat = 128 + c % 64 := by omega
  simp only [List.map_cons, List.map_nil, e1, e2]
theorem enc3 {c : Nat} (h0 : 2048 ≤ c) (h : c < 65536) (hv : vr c) : enc c = [UInt8.ofNat (224 + c / 4096), UInt8.ofNat (128 + c / 64 % 64), UInt8.ofNat (128 + c % 64)] := by
  unfold vr at hv
  unfold enc encodeRune encodeRuneZ
  rw [if_neg (by omega), if_neg (by omega), if_pos (by omega)]
  have e1 : (224 + (c : Int) / 4096).toNat = 224 + c / 4096 := by omega
  have e2 : (128 + (c : Int) / 64 % 64).toNat = 128 + c / 64 % 64 := by omega
  have e3 : (128 + (c : Int) % 64).toNat = 128 + c % 64 := by omega
  simp only [List.map_cons, List.map_nil, e1, e2, e3]
theorem enc4 {c : Nat} (h0 : 65536 ≤ c) (h : c < 1114112) : enc c = [UInt8.ofNat (240 + c / 262144), UInt8.ofNat (128 + c / 4096 % 64), UInt8.ofNat (128 + c / 64 % 64), UInt8.ofNat (128 + c % 64)] := by
  unfold enc encodeRune encodeRuneZ
  rw [if_neg (by omega), if_neg (by omega), if_neg (by omega), if_pos (by omega)]
  have e1 : (240 + (c : Int) / 262144).toNat = 240 + c / 262144 := by omega
  have e2 : (128 + (c : Int) / 4096 % 64).toNat = 128 + c / 4096 % 64 := by omega
  have e3 : (128 + (c : Int) / 64 % 64).toNat = 128 + c / 64 % 64 := by omega
  have e4 : (128 + (c : Int) % 64).toNat = 128 + c % 64 := by omega
  simp only [List.map_cons, List.map_nil, e1, e2, e3, e4]
theorem u8_nat (n : Nat) (h : n < 256) : (UInt8.ofNat n).toNat = n := by
  simp only [UInt8.toNat_ofNat']
  omega
theorem vr_lt {c : Nat} (h : vr c) : c < 1114112 := by unfold vr at h; omega
theorem enc_cases {c : Nat} (hv : vr c) : (c < 128 ∧ enc c = [UInt8.ofNat c]) ∨ (128 ≤ c ∧ c < 2048 ∧ enc c = [UInt8.ofNat (192 + c / 64), UInt8.ofNat (128 + c % 64)]) ∨
    (2048 ≤ c ∧ c < 65536 ∧ enc c = [UInt8.ofNat (224 + c / 4096), UInt8.ofNat (128 + c / 64 % 64), UInt8.ofNat (128 + c % 64)]) ∨
    (65536 ≤ c ∧ enc c = [UInt8.ofNat (240 + c / 262144), UInt8.ofNat (128 + c / 4096 % 64), UInt8.ofNat (128 + c / 64 % 64), UInt8.ofNat (128 + c % 64)]) := by
  have := vr_lt hv
  by_cases h1 : c < 128
  · exact .inl ⟨h1, enc1 h1⟩
  by_cases h2 : c < 2048
  · exact .inr (.inl ⟨by omega, h2, enc2 (by omega) h2⟩)
  by_cases h3 : c < 65536
  · exact .inr (.inr (.inl ⟨by omega, h3, enc3 (by omega) h3 hv⟩))
  · exact .inr (.inr (.inr ⟨by omega, enc4 (by omega) this⟩))
theorem enc_len {c : Nat} (hv : vr c) : 1 ≤ (enc c).length ∧ (enc c).length ≤ 4 := by
  rcases enc_cases hv with ⟨_, e⟩ | ⟨_, _, e⟩ | ⟨_, _, e⟩ | ⟨_, e⟩ <;> rw [e] <;> simp
theorem dec_enc {c : Nat} (hv : vr c) (t : Str) : decodeL (enc c ++ t) = (c, (enc c).length) := by
  have hlt := vr_lt hv
  unfold vr at hv
  rw [decodeL_N]
  rcases enc_cases hv with ⟨h1, e⟩ | ⟨h0, h1, e⟩ | ⟨h0, h1, e⟩ | ⟨h0, e⟩ <;> rw [e]
  · simp only [List.cons_append, List.getD_cons_zero, u8_nat c (by omega)]
    exact decodeN_ascii _ _ _ _ _ h1
  · simp only [List.cons_append, List.nil_append, List.getD_cons_zero, List.getD_cons_succ, u8_nat (192 + c / 64) (by omega), u8_nat (128 + c % 64) (by omega), List.length_cons]
    unfold decodeN
    rw [if_neg (by omega), if_pos ⟨by omega, by omega, by omega⟩, if_pos (by omega)]
    refine Prod.ext ?_ rfl
    show (192 + c / 64) % 32 * 64 + (128 + c % 64) % 64 = c
    omega
  · simp only [List.cons_append, List.nil_append, List.getD_cons_zero, List.getD_cons_succ, u8_nat (224 + c / 4096) (by omega), u8_nat (128 + c / 64 % 64) (by omega), u8_nat (128 + c % 64) (by omega), List.length_cons]
    unfold decodeN
    have k : (224 + c / 4096) % 16 * 4096 + (128 + c / 64 % 64) % 64 * 64 + (128 + c % 64) % 64 = c := by omega
    rw [if_neg (by omega), if_neg (by omega), if_pos ⟨by omega, ⟨by omega, by omega⟩, by omega, by omega⟩, k, if_pos (by omega)]
    simp only [List.length_nil]
  · simp only [List.cons_append, List.nil_append, List.getD_cons_zero, List.getD_cons_succ, u8_nat (240 + c / 262144) (by omega), u8_nat (128 + c / 4096 % 64) (by omega), u8_nat (128 + c / 64 % 64) (by omega), u8_nat (128 + c % 64) (by omega), List.length_cons]
    unfold decodeN
    have k : (240 + c / 262144) % 8 * 262144 + (128 + c / 4096 % 64) % 64 * 4096 + (128 + c / 64 % 64) % 64 * 64 + (128 + c % 64) % 64 = c := by omega
    rw [if_neg (by omega), if_neg (by omega), if_neg (by omega), if_pos ⟨by omega, ⟨by omega, by omega⟩, ⟨by omega, by omega⟩, by omega, by omega⟩, k, if_pos (by omega)]
    simp only [List.length_nil]
def good (l : Str) : Prop := ¬ ((decodeL l).1 = 65533 ∧ (decodeL l).2 = 1)
instance (l : Str) : Decidable (good l) := inferInstanceAs (Decidable (¬ _))
theorem good_enc {c : Nat} (hv : vr c) (t : Str) : good (enc c ++ t) := by
  unfold good
  rw [dec_enc hv t]
  rintro ⟨h1, h2⟩
  simp only at h1 h2
  rw [h1] at h2
  rw [enc3 (by omega) (by omega) (by unfold vr; omega)] at h2
  cases h2
theorem decodeN_vr (n b0 b1 b2 b3 : Nat) (h0 : b0 < 256) : vr (decodeN n b0 b1 b2 b3).1 := by
  unfold vr decodeN
  repeat' split
  all_goals simp only
  all_goals omega
theorem dec_vr (l : Str) : vr (decodeL l).1 := by
  rw [decodeL_N]
  exact decodeN_vr _ _ _ _ _ (UInt8.toNat_lt _)
theorem dec_good {l : Str} (hne : l ≠ []) (h : good l) : l = enc (decodeL l).1 ++ l.drop (decodeL l).2 ∧ (enc (decodeL l).1).length = (decodeL l).2 := by
  have h1 := encode_decode l hne h
  have h2 := decodeL_le l hne
  refine ⟨?_, ?_⟩
  · unfold enc
    rw [h1, List.take_append_drop]
  · unfold enc
    rw [h1, List.length_take]
    omega
theorem validS_step {l : Str} (hne : l ≠ []) : validS l = if good l then validS (l.drop (decodeL l).2) else false := by
  unfold validS
  rw [validD_step l hne]
  by_cases h : good l
  · rw [if_pos h, if_neg (show ¬ ((decodeL l).1 = 65533 ∧ (decodeL l).2 = 1) from h)]
  · rw [if_neg h, if_pos (Decidable.not_not.1 h)]
theorem enc_ne {c : Nat} (hv : vr c) (t : Str) : enc c ++ t ≠ [] := by
  have := enc_len hv
  intro e
  have := congrArg List.length e
  rw [List.length_append, List.length_nil] at this
  omega
theorem validS_enc {c : Nat} (hv : vr c) (t : Str) : validS (enc c ++ t) = validS t := by
  rw [validS_step (enc_ne hv t), if_pos (good_enc hv t), dec_enc hv t]
  simp
def encL (rs : List Nat) : Str := rs.flatMap enc
theorem validS_encL : ∀ (rs : List Nat), (∀ c ∈ rs, vr c) → ∀ t, validS (encL rs ++ t) = validS t
  | [], _, t => rfl
  | c :: rs, h, t => by
    have : encL (c :: rs) ++ t = enc c ++ (encL rs ++ t) := by simp [encL]
    rw [this, validS_enc (h c (by simp)), validS_encL rs (fun x hx => h x (by simp [hx]))]
theorem whole_runes : ∀ (n : Nat) (l : Str), l.length ≤ n → validS l = true → ∃ rs : List Nat, (∀ c ∈ rs, vr c) ∧ l = encL rs
  | 0, l, hl, _ => ⟨[], by simp, List.eq_nil_of_length_eq_zero (by omega)⟩
  | n + 1, l, hl, h => by
    by_cases hne : l = []
    · exact ⟨[], by simp, hne⟩
    rw [validS_step hne] at h
    split at h
    · rename_i hg
      obtain ⟨h1, h2⟩ := dec_good hne hg
      have h3 := enc_len (dec_vr l)
      obtain ⟨rs, hr, e⟩ := whole_runes n (l.drop (decodeL l).2) (by rw [List.length_drop]; omega) h
      refine ⟨(decodeL l).1 :: rs, ?_, ?_⟩
      · intro c hc
        rcases List.mem_cons.1 hc with rfl | hc
        · exact dec_vr l
        · exact hr c hc
      · exact h1.trans ((congrArg (enc (decodeL l).1 ++ ·) e).trans (by simp [encL]))
    · cases h
theorem whole_iff {l : Str} : validS l = true ↔ ∃ rs : List Nat, (∀ c ∈ rs, vr c) ∧ l = encL rs := by
  refine ⟨whole_runes l.length l (Nat.le_refl _), ?_⟩
  rintro ⟨rs, hr, rfl⟩
  have := validS_encL rs hr []
  rw [List.append_nil] at this
  rw [this]; rfl
theorem getD_app_lt {s t : Str} {i : Nat} (h : i < s.length) : (s ++ t).getD i 0 = s.getD i 0 := by
  simp [List.getD, List.getElem?_append_left h]
end Go.Yard
namespace Go.Yard
theorem chk_pos {R : Type} {b : Bool} {k : Option R} (h : b = true) : chk b k = k := by subst h; rfl
theorem wrap_id {n : Int} (h1 : -9223372036854775808 ≤ n) (h2 : n ≤ 9223372036854775807) : IntKind.i64.wrap n = n := by
  simp only [IntKind.wrap, IntKind.bits, IntKind.signed, IntKind.min, IntKind.max]
  simp
  omega
theorem Json.eta (x : Json) : (⟨x.kind, ⟨x.num.mant, x.num.exp⟩, x.text, x.names, x.items⟩ : Json) = x := by cases x; rfl
theorem Raw.eta (x : Raw) : (⟨x.kind, x.mant, x.exp, x.text, x.items⟩ : Raw) = x := by cases x; rfl
theorem getD_at {α : Type} {l : List α} {i : Nat} (h : i < l.length) (d : α) : l.getD i d = l[i] := by simp [List.getD, h]
end Go.Yard
set_option maxRecDepth 100000
namespace Go.Proofs.YtmlkkgfenfdndaaGreatDoor
open Go Go.Yard Go.RowKit Go.Shelf
section
variable {w w' : World} {h : Heap} {c : Cfg} {R : Type}
theorem below_drewN : ∀ (q : Nat) (a : World), Below w.heap.size w a → Below w.heap.size w (a.drewN q)
  | 0, _, ha => ha
  | q + 1, a, ha => (below_drewN q a ha).drew
theorem below_push (a : World) (os : Array Obj) (ha : Below w.heap.size w a) : Below w.heap.size w { a with heap := a.heap ++ os } :=
  ⟨ha.os, ha.tape, ha.output, by simp; have := ha.size; omega, fun k hk => by
    have := ha.size
    rw [← ha.block k hk]
    exact Array.getElem?_append_left (by omega)⟩
theorem below_bytes (e : TypeId) (t : ByteArray) : Below w.heap.size w (Go.Lib.bytesWorld w e t) := by
  unfold Go.Lib.bytesWorld World.freeze
  have hb : Below w.heap.size w (w.drew.alloc (.cells (Go.Lib.bytesCells w e t) e)) := below_drew_alloc w _
  split
  · exact hb
  · refine ⟨hb.os, hb.tape, hb.output, ?_, fun k hk => ?_⟩
    · have := hb.size; simpa using this
    · rw [← hb.block k hk]
      simp only [Array.getElem?_modify]
      rw [if_neg (by show ¬ w.heap.size = k; omega)]
theorem trimL_le (s cs : Str) : (trimL s cs).length ≤ s.length := drop_le _ s
theorem trimR_le (s cs : Str) : (trimR s cs).length ≤ s.length := by
  unfold trimR
  rw [List.length_reverse]
  exact Nat.le_trans (drop_le _ _) (by simp)
theorem trimL_nil (s : Str) : trimL s [] = s := by
  unfold trimL
  cases s with
  | nil => rfl
  | cons b s => simp
theorem trimR_nil (s : Str) : trimR s [] = s := by
  unfold trimR
  have : (s.reverse.dropWhile fun x => List.contains [] x) = s.reverse := by
    cases s.reverse with
    | nil => rfl
    | cons b s => simp
  rw [this, List.reverse_reverse]
theorem trimL_one (s : Str) (b : UInt8) : trimL s [b] = Go.Lib.trimLeftB s b := by
  unfold trimL Go.Lib.trimLeftB
  congr 1
  funext x
  rw [List.contains_cons]
  show (x == b || false) = _
  rw [Bool.or_false]
theorem trimR_one (s : Str) (b : UInt8) : trimR s [b] = Go.Lib.trimRightB s b := by
  unfold trimR Go.Lib.trimRightB
  congr 2
  funext x
  rw [List.contains_cons]
  show (x == b || false) = _
  rw [Bool.or_false]
theorem valid_ok : Yard.Spec.Ok Tryz.prog 72 (valid_S R) := by
  refine hand_plain Tryz.func72 rfl rfl fun vs hp k r hk w c args wf ra => ?_
  unfold valid_S at hk
  split at hk <;> try (first | cases hk)
  rename_i s
  obtain ⟨a, rfl, r1⟩ := repL1 ra
  obtain ⟨t, rfl, rfl, hl⟩ := r1.str_inv
  refine ⟨_, hk, ret_mono (Any.utf8_ValidString Tryz.lay196 t w hl wf.lay.1.1) ?_⟩
  rintro e w' ⟨he, hb⟩
  exact ⟨_, he, hb, .bool _⟩
theorem dec_ok : Yard.Spec.Ok Tryz.prog 130 (dec_S R) := by
  refine hand_plain Tryz.func130 rfl rfl fun vs hp k r hk w c args wf ra => ?_
  unfold dec_S at hk
  split at hk <;> try (first | cases hk)
  rename_i s
  obtain ⟨a, rfl, r1⟩ := repL1 ra
  obtain ⟨t, rfl, rfl, hl⟩ := r1.str_inv
  have hd : Go.Lib.decodeGo t = decRune t.data.toList := by
    unfold Go.Lib.decodeGo decRune
    by_cases h0 : t.size = 0
    · have : t.data.toList = [] := List.eq_nil_of_length_eq_zero (by rw [size_data]; exact h0)
      simp [h0, this]
    · have : t.data.toList ≠ [] := fun e => h0 (by rw [← size_data, e]; rfl)
      have hm : (⟨t.data.toList.toArray⟩ : ByteArray) = t := string_ext rfl
      simp [h0, hm]
      exact fun e => absurd (show t.data.size = 0 by rw [e]; rfl) h0
  have hlt : (decRune t.data.toList).1 < 2097152 ∧ (decRune t.data.toList).2 ≤ 4 := by
    unfold decRune
    split
    · exact ⟨by omega, by omega⟩
    · exact ⟨(decode_lt _ _).1, (decode_lt _ _).2.2⟩
  refine ⟨_, hk, ret_mono (Any.utf8_DecodeRuneInString Tryz.lay197 t w wf.lay.1.1) ?_⟩
  rintro e w' ⟨he, hb⟩
  rw [hd] at he
  refine ⟨_, he, hb, .tuple rfl fun j v d hv hd => ?_⟩
  match j, hv, hd with
  | 0, hv, hd => simp at hv hd; subst hv; subst hd; exact .int (has_rune _ hlt.1)
  | 1, hv, hd => simp at hv hd; subst hv; subst hd; exact .int (has_len _ (by unfold mx; omega))
  | j + 2, hv, _ => simp at hv
theorem itoa_ok : Yard.Spec.Ok Tryz.prog 66 (itoa_S R) := by
  refine hand_plain Tryz.func66 rfl rfl fun vs hp k r hk w c args wf ra => ?_
  unfold itoa_S at hk
  split at hk <;> try (first | cases hk)
  rename_i n
  obtain ⟨a, rfl, r1⟩ := repL1 ra
  obtain ⟨rfl, hn⟩ := r1.int_inv
  have hn' : -9223372036854775808 ≤ n ∧ n ≤ 9223372036854775807 := by simpa [IntKind.has, IntKind.min, IntKind.max, IntKind.signed, IntKind.bits] using hn
  refine ⟨_, hk, ret_mono (Any.strconv_Itoa Tryz.lay171 n hn'.1 hn'.2 w wf.lay.1.2.1) ?_⟩
  rintro e w' ⟨he, q, os, rfl⟩
  refine ⟨_, he, below_push _ os (below_drewN q w (Below.refl _ _)), str_of _ ?_⟩
  have := Go.Lib.itoa_length_le n hn'.1 hn'.2
  unfold itoaS mx
  omega
theorem x72 : Builder.X72 Tryz.prog Tryz.lay105_ren := { sizeBuilder := by kernel_rfl, liesBuilder := by kernel_rfl }
theorem xBuilder : Builder.Extra Tryz.prog Tryz.lay105_ren := { x72 with t5 := Tryz.underlying5, a5 := Tryz.isAgg5, z5 := Tryz.sizeOf5, v5 := Tryz.zeroValue5, infoByte := by kernel_rfl, cellsByte := by kernel_rfl, sizeByte := by kernel_rfl, neB5 := by decide }
theorem rep_ok : Yard.Spec.Ok Tryz.prog 67 (rep_S R) := by
  refine hand_plain Tryz.func67 rfl rfl fun vs hp k r hk w c args wf ra => ?_
  unfold rep_S at hk
  split at hk <;> try (first | cases hk)
  rename_i s n
  obtain ⟨hc, hk⟩ := chk_some hk
  simp only [Bool.and_eq_true, decide_eq_true_eq] at hc
  obtain ⟨h0, hlen⟩ := hc
  obtain ⟨a, b, rfl, r1, r2⟩ := repL2 ra
  obtain ⟨t, rfl, rfl, hl⟩ := r1.str_inv
  obtain ⟨rfl, hn⟩ := r2.int_inv
  obtain ⟨m, rfl⟩ := Int.eq_ofNat_of_zero_le h0
  have hn' : (m : Int) ≤ 9223372036854775807 := by
    have : IntKind.i64.has (m : Int) := hn
    simp [IntKind.has, IntKind.min, IntKind.max, IntKind.signed, IntKind.bits] at this
    omega
  rw [size_data] at hlen
  have hlen' : t.size * m ≤ 140737488355328 := by omega
  have hrl : (Go.Lib.repeatL t.data.toList m).length ≤ 140737488355328 := by
    rw [Go.Lib.repeatL_length, size_data, Nat.mul_comm]; exact hlen'
  refine ⟨_, hk, ret_mono (Any.strings_Repeat Tryz.lay105 xBuilder t m w (by omega) hlen') ?_⟩
  rintro e w' ⟨he, hb⟩
  refine ⟨_, he, hb, ?_⟩
  have e2 : repS t.data.toList (m : Int) = Go.Lib.repeatL t.data.toList m := by unfold repS; simp
  rw [e2]
  exact str_of _ (by unfold mx; omega)
theorem trimL_ok : Yard.Spec.Ok Tryz.prog 68 (trimL_S R) := by
  refine hand_plain Tryz.func68 rfl rfl fun vs hp k r hk w c args wf ra => ?_
  unfold trimL_S at hk
  split at hk <;> try (first | cases hk)
  rename_i s cs
  obtain ⟨hc, hk⟩ := chk_some hk
  simp only [Bool.and_eq_true, decide_eq_true_eq] at hc
  obtain ⟨ha, hcl⟩ := hc
  obtain ⟨a, b, rfl, r1, r2⟩ := repL2 ra
  obtain ⟨t, rfl, rfl, hl⟩ := r1.str_inv
  obtain ⟨u, rfl, rfl, hl2⟩ := r2.str_inv
  rw [size_data] at hcl
  have hasc := asc_get ha
  have hle := trimL_le t.data.toList u.data.toList
  rw [size_data] at hle
  have fin : ∀ (l : Str), l = trimL t.data.toList u.data.toList → ∀ w' : World, Rep w' hp c (.str (trimL t.data.toList u.data.toList)) (.string ⟨l.toArray⟩) := fun l e w' => by
    rw [e]; exact str_of _ (by omega)
  by_cases h0 : t.size = 0 ∨ u.size = 0
  · refine ⟨_, hk, ret_mono (Any.strings_TrimLeft_empty Tryz.lay161 t u w h0) ?_⟩
    rintro e w' ⟨he, rfl⟩
    have e2 : (⟨t.data.toList.toArray⟩ : ByteArray) = t := string_ext rfl
    rw [← e2] at he
    refine ⟨_, he, Below.refl _ _, fin _ ?_ _⟩
    rcases h0 with h0 | h0
    · have : t.data.toList = [] := List.eq_nil_of_length_eq_zero (by rw [size_data]; exact h0)
      rw [this]; unfold trimL; simp
    · have : u.data.toList = [] := List.eq_nil_of_length_eq_zero (by rw [size_data]; exact h0)
      rw [this, trimL_nil]
  · have hu1 : u.size = 1 ∨ 2 ≤ u.size := by omega
    rcases hu1 with hu1 | hu2
    · obtain ⟨b, hb⟩ : ∃ b, u.data.toList = [b] := by
        have hul : u.data.toList.length = 1 := by rw [size_data]; exact hu1
        match hq : u.data.toList, hul with
        | [b], _ => exact ⟨b, rfl⟩
      have eu : u = ⟨#[b]⟩ := string_ext (by rw [hb])
      subst eu
      refine ⟨_, hk, ret_mono (Any.strings_TrimLeft_one Tryz.lay161 t b (hasc 0 b rfl) w) ?_⟩
      rintro e w' ⟨he, rfl⟩
      exact ⟨_, he, Below.refl _ _, fin _ (trimL_one _ _).symm _⟩
    · refine ⟨_, hk, ret_mono (Any.strings_TrimLeft_set Tryz.lay161 Tryz.zeroValue135 (by kernel_rfl) t u w hu2 (by omega) (by omega) hasc) ?_⟩
      rintro e w' ⟨he, rfl⟩
      refine ⟨_, he, ?_, fin _ rfl _⟩
      exact ((Below.refl _ _).alloc (Nat.le_refl _) _).alloc (by simp) _
theorem trimR_ok : Yard.Spec.Ok Tryz.prog 104 (trimR_S R) := by
  refine hand_plain Tryz.func104 rfl rfl fun vs hp k r hk w c args wf ra => ?_
  unfold trimR_S at hk
  split at hk <;> try (first | cases hk)
  rename_i s cs
  obtain ⟨hc, hk⟩ := chk_some hk
  simp only [Bool.and_eq_true, decide_eq_true_eq] at hc
  obtain ⟨ha, hcl⟩ := hc
  obtain ⟨a, b, rfl, r1, r2⟩ := repL2 ra
  obtain ⟨t, rfl, rfl, hl⟩ := r1.str_inv
  obtain ⟨u, rfl, rfl, hl2⟩ := r2.str_inv
  rw [size_data] at hcl
  have hasc := asc_get ha
  have hle := trimR_le t.data.toList u.data.toList
  rw [size_data] at hle
  have fin : ∀ (l : Str), l = trimR t.data.toList u.data.toList → ∀ w' : World, Rep w' hp c (.str (trimR t.data.toList u.data.toList)) (.string ⟨l.toArray⟩) := fun l e w' => by
    rw [e]; exact str_of _ (by omega)
  by_cases h0 : t.size = 0 ∨ u.size = 0
  · refine ⟨_, hk, ret_mono (Any.strings_TrimRight_empty Tryz.lay162 t u w h0) ?_⟩
    rintro e w' ⟨he, rfl⟩
    have e2 : (⟨t.data.toList.toArray⟩ : ByteArray) = t := string_ext rfl
    rw [← e2] at he
    refine ⟨_, he, Below.refl _ _, fin _ ?_ _⟩
    rcases h0 with h0 | h0
    · have : t.data.toList = [] := List.eq_nil_of_length_eq_zero (by rw [size_data]; exact h0)
      rw [this]; unfold trimR; simp
    · have : u.data.toList = [] := List.eq_nil_of_length_eq_zero (by rw [size_data]; exact h0)
      rw [this, trimR_nil]
  · have hu1 : u.size = 1 ∨ 2 ≤ u.size := by omega
    rcases hu1 with hu1 | hu2
    · obtain ⟨b, hb⟩ : ∃ b, u.data.toList = [b] := by
        have hul : u.data.toList.length = 1 := by rw [size_data]; exact hu1
        match hq : u.data.toList, hul with
        | [b], _ => exact ⟨b, rfl⟩
      have eu : u = ⟨#[b]⟩ := string_ext (by rw [hb])
      subst eu
      refine ⟨_, hk, ret_mono (Any.strings_TrimRight_one Tryz.lay162 t b (hasc 0 b rfl) w hl) ?_⟩
      rintro e w' ⟨he, rfl⟩
      exact ⟨_, he, Below.refl _ _, fin _ (trimR_one _ _).symm _⟩
    · refine ⟨_, hk, ret_mono (Any.strings_TrimRight_set Tryz.lay162 Tryz.zeroValue135 (by kernel_rfl) t u w hu2 (by omega) hl (by omega) hasc) ?_⟩
      rintro e w' ⟨he, rfl⟩
      refine ⟨_, he, ?_, fin _ rfl _⟩
      exact ((Below.refl _ _).alloc (Nat.le_refl _) _).alloc (by simp) _
theorem atoi_ok : Yard.Spec.Ok Tryz.prog 105 (atoi_S R) := by
  refine hand_plain Tryz.func105 rfl rfl fun vs hp k r hk w c args wf ra => ?_
  unfold atoi_S at hk
  split at hk <;> try (first | cases hk)
  rename_i s
  obtain ⟨hc, hk⟩ := chk_some hk
  simp only [decide_eq_true_eq] at hc
  obtain ⟨a, rfl, r1⟩ := repL1 ra
  obtain ⟨t, rfl, rfl, hl⟩ := r1.str_inv
  rw [size_data] at hc
  obtain ⟨_, _, ⟨t1, x1, hv1⟩, ⟨t2, x2, hv2⟩⟩ := wf.lay.1
  have hval : IntKind.i64.has (atoiVal t.data.toList) := by
    unfold atoiVal
    split
    · rename_i v hv
      unfold Go.Lib.atoiAll at hv
      split at hv
      · cases hv
      · dsimp only at hv
        split at hv
        · cases hv
        · cases hv
        · rename_i u _
          split at hv
          · cases hv
          · split at hv
            · cases hv
            · cases hv
              split <;> simp [IntKind.has, IntKind.min, IntKind.max, IntKind.signed, IntKind.bits] <;> omega
    · unfold Go.Lib.atoiSat
      split <;> simp [IntKind.has, IntKind.min, IntKind.max, IntKind.signed, IntKind.bits]
    · simp [IntKind.has, IntKind.min, IntKind.max, IntKind.signed, IntKind.bits]
  have two : ∀ (z : Int) (u : V) (w' : World) (x : Value), atoiVal t.data.toList = z → Rep w' hp c u x → Rep w' hp c (.tuple [.int .i64 (atoiVal t.data.toList), u]) (.tuple #[.int .i64 z, x]) := fun z u w' x hz hx => by
    subst hz
    refine .tuple rfl fun j v d hv hd => ?_
    match j, hv, hd with
    | 0, hv, hd => simp at hv hd; subst hv; subst hd; exact .int hval
    | 1, hv, hd => simp at hv hd; subst hv; subst hd; exact hx
    | j + 2, hv, _ => simp at hv
  rcases hA : Go.Lib.atoiAll t.data.toList with v | _ | _
  ·
    have e1 : atoiOk t.data.toList = true := by unfold atoiOk; rw [hA]
    have e2 : atoiVal t.data.toList = v := by unfold atoiVal; rw [hA]
    rw [e1] at hk
    refine ⟨_, hk, ret_mono (Any.strconv_Atoi_ok Tryz.lay172 t (by omega) v hA w) ?_⟩
    rintro e w' ⟨he, hb⟩
    refine ⟨_, he, ?_, two _ _ _ _ e2 .niliface⟩
    rcases hb with rfl | ⟨q, rfl⟩
    · exact Below.refl _ _
    · exact below_bytes _ _
  ·
    have e1 : atoiOk t.data.toList = false := by unfold atoiOk; rw [hA]
    have e2 : atoiVal t.data.toList = 0 := by unfold atoiVal; rw [hA]
    rw [e1] at hk
    refine ⟨_, hk, ret_mono (Any.strconv_Atoi_syntax Tryz.lay172 t hc hA (.iface t1 x1) w hv1 (.inr ⟨_, _, rfl⟩)) ?_⟩
    rintro e w' ⟨q, he, _, _, hb⟩
    exact ⟨_, he, hb, two _ _ _ _ e2 (.iface _ _)⟩
  ·
    have e1 : atoiOk t.data.toList = false := by unfold atoiOk; rw [hA]
    have e2 : atoiVal t.data.toList = Go.Lib.atoiSat t.data.toList := by unfold atoiVal; rw [hA]
    rw [e1] at hk
    refine ⟨_, hk, ret_mono (Any.strconv_Atoi_range Tryz.lay172 t hc hA (.iface t2 x2) w hv2 (.inr ⟨_, _, rfl⟩)) ?_⟩
    rintro e w' ⟨q, he, _, _, hb⟩
    exact ⟨_, he, hb, two _ _ _ _ e2 (.iface _ _)⟩
theorem toErr_ok : Yard.Spec.Ok Tryz.prog 136 (toErr_S R 184) := by
  refine hand_plain Tryz.func136 rfl rfl fun vs hp k r hk w c args wf ra => ?_
  unfold toErr_S at hk
  split at hk <;> try (first | cases hk)
  rename_i fn s b1 b2 t n
  obtain ⟨hc, hk1⟩ := chk_some hk
  obtain ⟨hl0, hk2⟩ := chk_some hk1
  simp only [Bool.and_eq_true, Bool.or_eq_true, beq_iff_eq, decide_eq_true_eq] at hc hl0
  obtain ⟨ht, hn⟩ := hc
  have ht := Nat.eq_of_beq_eq_true ht
  subst ht
  obtain ⟨l⟩ := args
  match l, ra with
  | [a1, a2, a3, a4, a5], ra =>
    obtain ⟨t1, rfl, rfl, _⟩ := ra.head.str_inv
    obtain ⟨t2, rfl, rfl, hl2⟩ := ra.tail.head.str_inv
    obtain ⟨rfl, _⟩ := ra.tail.tail.head.int_inv
    obtain ⟨rfl, _⟩ := ra.tail.tail.tail.head.int_inv
    obtain ⟨rfl, _⟩ := ra.tail.tail.tail.tail.head.ifi_inv
    rw [size_data] at hl0
    obtain ⟨_, _, ⟨p1, x1, hv1⟩, ⟨p2, x2, hv2⟩⟩ := wf.lay.1
    rcases hn with rfl | rfl
    · refine ⟨_, hk2, ret_mono (Any.strconv_toError_syntax Tryz.lay245 t1 t2 b1 b2 (.iface p1 x1) w hl0 hv1 (.inr ⟨_, _, rfl⟩)) ?_⟩
      rintro e w' ⟨q, he, _, _, hb⟩
      exact ⟨_, he, hb, .iface _ _⟩
    · refine ⟨_, hk2, ret_mono (Any.strconv_toError_range Tryz.lay245 t1 t2 b1 b2 (.iface p2 x2) w hl0 hv2 (.inr ⟨_, _, rfl⟩)) ?_⟩
      rintro e w' ⟨q, he, _, _, hb⟩
      exact ⟨_, he, hb, .iface _ _⟩
  | [], ra => have := ra.1; simp at this
  | [_], ra => have := ra.1; simp at this
  | [_, _], ra => have := ra.1; simp at this
  | [_, _, _], ra => have := ra.1; simp at this
  | [_, _, _, _], ra => have := ra.1; simp at this
  | _ :: _ :: _ :: _ :: _ :: _ :: _, ra => have := ra.1; simp at this
theorem hasAny_ok : Yard.Spec.Ok Tryz.prog 173 (hasAny_S R) := by
  refine hand_plain Tryz.func173 rfl rfl fun vs hp k r hk w c args wf ra => ?_
  unfold hasAny_S at hk
  split at hk <;> try (first | cases hk)
  rename_i s cs
  obtain ⟨hc, hk⟩ := chk_some hk
  simp only [Bool.and_eq_true, decide_eq_true_eq] at hc
  obtain ⟨⟨⟨ha, hb⟩, hsl⟩, hcl⟩ := hc
  obtain ⟨a, b, rfl, r1, r2⟩ := repL2 ra
  obtain ⟨t, rfl, rfl, hl⟩ := r1.str_inv
  obtain ⟨u, rfl, rfl, hl2⟩ := r2.str_inv
  rw [size_data] at hsl hcl
  refine ⟨_, hk, ret_mono (Any.strings_ContainsAny_laid Tryz.lay150 (by kernel_rfl) t u w hsl hcl (asc_get ha) (asc_get hb)) ?_⟩
  rintro e w' ⟨he, hb⟩
  exact ⟨_, he, hb, .bool _⟩
theorem idx_ok : Yard.Spec.Ok Tryz.prog 71 (idx_S R) := by
  refine hand_plain Tryz.func71 rfl rfl fun vs hp k r hk w c args wf ra => ?_
  unfold idx_S at hk
  split at hk <;> try (first | cases hk)
  rename_i s ch
  obtain ⟨a, b, rfl, r1, r2⟩ := repL2 ra
  obtain ⟨t, rfl, rfl, hl⟩ := r1.str_inv
  obtain ⟨rfl, hn⟩ := r2.int_inv
  have hb : IntKind.i64.has (Go.Lib.indexByte t.data.toList ch.toNat.toUInt8) := by
    have h1 := Go.Lib.indexByte_ge t.data.toList ch.toNat.toUInt8
    have h2 : Go.Lib.indexByte t.data.toList ch.toNat.toUInt8 ≤ t.data.toList.length := by
      generalize t.data.toList = l
      induction l with
      | nil => simp [Go.Lib.indexByte]
      | cons x l ih =>
        have := Go.Lib.indexByte_ge l ch.toNat.toUInt8
        unfold Go.Lib.indexByte
        split
        · simp; omega
        · split
          · simp; omega
          · simp; omega
    rw [size_data] at h2
    unfold mx at hl
    generalize Go.Lib.indexByte t.data.toList ch.toNat.toUInt8 = z at h1 h2
    simp [IntKind.has, IntKind.min, IntKind.max, IntKind.signed, IntKind.bits]; omega
  refine ⟨_, hk, ret_mono (Any.strings_IndexByte Tryz.lay137 t ch w) ?_⟩
  rintro e w' ⟨he, rfl⟩
  exact ⟨_, he, Below.refl _ _, .int hb⟩
theorem bccL : Lays.n240 Tryz.prog Tryz.lay105_ren := { Tryz.lay105 with }
theorem bcc_is : Yard.Spec.Ok Tryz.prog 73 (bcc_S R) :=
  bcc_ok Tryz.func73 rfl rfl (fun b w h0 hs hf => Any.Builder_copyCheck_fresh bccL x72 b w h0 hs hf) (fun b w h0 => Any.Builder_copyCheck_used bccL x72 b w h0)
theorem bstrL : Lays.n169 Tryz.prog Tryz.lay169_ren := Tryz.lay169
theorem xBuilder169 : Builder.Extra Tryz.prog Tryz.lay169_ren := { sizeBuilder := by kernel_rfl, liesBuilder := by kernel_rfl, t5 := Tryz.underlying5, a5 := Tryz.isAgg5, z5 := Tryz.sizeOf5, v5 := Tryz.zeroValue5, infoByte := by kernel_rfl, cellsByte := by kernel_rfl, sizeByte := by kernel_rfl, neB5 := by decide }
set_option maxHeartbeats 1000000 in
theorem string_some (b q cap : Nat) (p : Value) (cur : Array Value) (fz : Nat × Nat) (l : List UInt8) (w : World) (h0 : l ≠ []) (hbk : w.heap[b]? = some (.cells #[p, .slice (some ⟨q, 0, none⟩) l.length cap] lay0.bld (0, 0)))
    (hq : w.heap[q]? = some (.cells cur lay0.u8 fz)) (hnc : l.length ≤ cap) (hcm : cap ≤ mx) (hsz : l.length ≤ cur.size) (hcell : ∀ (j : Nat) (x : UInt8), l[j]? = some x → w.cell? ⟨q, j, none⟩ = some (.int .u8 x.toNat)) :
    Calls Tryz.prog 39 #[.pointer (some ⟨b, 0, none⟩)] w fun e w' => e = .returned (.string ⟨l.toArray⟩) ∧ w' = w.drew.freeze ⟨q, 0, none⟩ l.length := by
  have hl0 : l.length ≠ 0 := by simpa using h0
  have L := bstrL
  have X := xBuilder169
  have c1 : w.drew.cell? ⟨b, 1, none⟩ = some (.slice (some ⟨q, 0, none⟩) l.length cap) := by
    have h1 : w.drew.heap[b]? = some (.cells #[p, .slice (some ⟨q, 0, none⟩) l.length cap] lay0.bld (0, 0)) := hbk
    rw [Lib.cell_of_heap h1]; rfl
  have hSD : (Builtin.unsafeSliceData_ #[41] 106 #[.slice (some ⟨q, 0, none⟩) l.length cap]).run Tryz.prog w.drew = .ok (.pointer (some ⟨q, 0, none⟩)) w.drew :=
    Lib.run_unsafeSliceData_row _ _ _ _ _ _ (by omega)
  have hUS : (Builtin.unsafeString_ #[106, 3] 9 #[.pointer (some ⟨q, 0, none⟩), .int .i64 l.length]).run Tryz.prog w.drew = .ok (.string ⟨l.toArray⟩) (w.drew.freeze ⟨q, 0, none⟩ l.length) := by
    refine Lib.run_unsafeString_row w.drew 106 3 9 5 L.t127 X.cellsByte q cur.size (by have hq' : w.drew.heap[q]? = some (.cells cur 5 fz) := hq; simp [World.shape?, hq']) l h0 hsz (by unfold mx at hcm; omega) ?_
    intro j x hx
    have := hcell j x hx
    rw [Yard.add_off, Nat.zero_add]
    exact this
  have mixed := L.mixed
  have t72 := L.t72; have a72 := L.a72; have z72 := L.z72; have v72 := L.v72; have u72 := run_underlying L.t72
  have t70 := L.t70; have a70 := L.a70; have z70 := L.z70; have v70 := L.v70; have u70 := run_underlying L.t70
  have t37 := L.t37; have a37 := L.a37; have z37 := L.z37; have v37 := L.v37; have u37 := run_underlying L.t37
  have t127 := L.t127; have a127 := L.a127; have z127 := L.z127; have v127 := L.v127; have u127 := run_underlying L.t127
  have t3 := L.t3; have a3 := L.a3; have z3 := L.z3; have v3 := L.v3; have u3 := run_underlying L.t3
  have t9 := L.t9; have a9 := L.a9; have z9 := L.z9; have v9 := L.v9; have u9 := run_underlying L.t9
  have t5 := X.t5; have a5 := X.a5; have z5 := X.z5; have v5 := X.v5; have u5 := run_underlying X.t5
  go_enter Tryz.func39, Tryz.ntmps39
  go_wp2
  go_region_o
  all_goals (go_wp2; go_ret; exact ⟨rfl, rfl⟩)
set_option maxHeartbeats 2000000 in
theorem string_noroom (b q : Nat) (p : Value) (cur : Array Value) (fz : Nat × Nat) (w : World) (hbk : w.heap[b]? = some (.cells #[p, .slice (some ⟨q, 0, none⟩) 0 0] lay0.bld (0, 0))) (hq : w.heap[q]? = some (.cells cur lay0.u8 fz)) :
    Calls Tryz.prog 39 #[.pointer (some ⟨b, 0, none⟩)] w fun e w' => e = .returned (.string ⟨#[]⟩) ∧ Below w.heap.size w w' := by
  have L := bstrL
  have X := xBuilder169
  have hUS : ∀ (W : World) (q : Option Addr), (Builtin.unsafeString_ #[106, 3] 9 #[.pointer q, .int .i64 0]).run Tryz.prog W = .ok (.string .empty) W := fun W q => Lib.run_unsafeString_none W _ _ _ q
  have hlt : b < w.heap.size := by
    rcases Nat.lt_or_ge b w.heap.size with h' | h'
    · exact h'
    · simp [Array.getElem?_eq_none h'] at hbk
  have c1 : w.drew.cell? ⟨b, 1, none⟩ = some (.slice (some ⟨q, 0, none⟩) 0 0) := by
    have : w.drew.heap[b]? = some (.cells #[p, .slice (some ⟨q, 0, none⟩) 0 0] lay0.bld (0, 0)) := hbk
    rw [Lib.cell_of_heap this]; rfl
  have hSD : (Builtin.unsafeSliceData_ #[41] 106 #[.slice (some ⟨q, 0, none⟩) 0 0]).run Tryz.prog w.drew = .ok (.pointer (some ⟨w.drew.heap.size, 0, none⟩)) (w.drew.alloc (.view ⟨q, 0, none⟩ 5)) :=
    Lib.run_unsafeSliceData_zero w.drew _ _ 5 L.t127 ⟨q, 0, none⟩ 0 (5, cur.size) (by have hq' : w.drew.heap[q]? = some (.cells cur 5 fz) := hq; simp [World.shape?, hq'])
  have c2 : (w.drew.alloc (.view ⟨q, 0, none⟩ 5)).cell? ⟨b, 1, none⟩ = some (.slice (some ⟨q, 0, none⟩) 0 0) := by
    have : (w.drew.alloc (.view ⟨q, 0, none⟩ 5)).heap[b]? = _ := (Lib.alloc_old w.drew _ b hlt).trans hbk
    rw [Lib.cell_of_heap this]; rfl
  have c3 : (w.alloc (.view ⟨q, 0, none⟩ 5)).drew.cell? ⟨b, 1, none⟩ = some (.slice (some ⟨q, 0, none⟩) 0 0) := c2
  have c0 : w.cell? ⟨b, 1, none⟩ = some (.slice (some ⟨q, 0, none⟩) 0 0) := c1
  have mixed := L.mixed
  have t72 := L.t72; have a72 := L.a72; have z72 := L.z72; have v72 := L.v72; have u72 := run_underlying L.t72
  have t70 := L.t70; have a70 := L.a70; have z70 := L.z70; have v70 := L.v70; have u70 := run_underlying L.t70
  have t37 := L.t37; have a37 := L.a37; have z37 := L.z37; have v37 := L.v37; have u37 := run_underlying L.t37
  have t127 := L.t127; have a127 := L.a127; have z127 := L.z127; have v127 := L.v127; have u127 := run_underlying L.t127
  have t3 := L.t3; have a3 := L.a3; have z3 := L.z3; have v3 := L.v3; have u3 := run_underlying L.t3
  have t9 := L.t9; have a9 := L.a9; have z9 := L.z9; have v9 := L.v9; have u9 := run_underlying L.t9
  have t5 := X.t5; have a5 := X.a5; have z5 := X.z5; have v5 := X.v5; have u5 := run_underlying X.t5
  go_enter Tryz.func39, Tryz.ntmps39
  go_wp2
  go_region_o
  all_goals (go_wp2; go_ret; exact ⟨rfl, (Below.drew (Below.refl _ w)).alloc (Nat.le_refl _) _⟩)
theorem string_does : StringDoes Tryz.prog 39 where
  nil := fun b p w hbk => Any.Builder_String_nil bstrL xBuilder169 w.heap.size b p w hbk
  noroom := string_noroom
  room := fun b q cap p w hc hbk => Any.Builder_String_room bstrL xBuilder169 w.heap.size b q cap p w hc hbk
  some := string_some
theorem bstr_is : Yard.Spec.Ok Tryz.prog 39 (bstr_S R) := bstr_ok Tryz.func39 rfl rfl string_does
end
end Go.Proofs.YtmlkkgfenfdndaaGreatDoor
/-
  Functions of the program as pure Lean functions, and the ties; printed by wip/tools/emit.py.
-/
set_option maxRecDepth 100000
namespace Go.Proofs.YtmlkkgfenfdndaaGreatDoor
open Go Go.Yard
/-! ### humpyard/humpyardlaw03.pick -/
abbrev q73_ty (R : Type) : Type := Int → Int → (Int → Option R) → Option R
abbrev q73_p : List Pat := [.leaf (.int .i64), .leaf (.int .i64)]
abbrev q73_q : List HPat := []
noncomputable def q73_rr {R : Type} (fn : q73_ty R) : Pat.dens q73_p → HPat.dens q73_q → (V → Heap → Option R) → Option R := fun x y k => fn x.1 x.2.1 (fun q0 => k (.int .i64 q0) [])
noncomputable def q73_E (R : Type) : Env R := fun i => match i with
  | _ => none
theorem q73_EOk (R : Type) : EOk Tryz.prog (q73_E R) := by
  intro i b sp h
  unfold q73_E at h
  split at h
  · cases h
noncomputable def q73_T (R : Type) : Nat → Option (Hint × LSpec R) := fun i => match i with
  | _ => none
noncomputable def q73_X {R : Type} (x1 : Int) (x2 : Int) (k0 : Int → Option R) : Option R :=
  bif (decide (x1 < (0 : Int))) then (chk (!decide (x2 = 0)) (k0 (Int.tmod (IntKind.i64.wrap (0 - (IntKind.i64.wrap (x1 + 1)))) x2))) else (chk (!decide (x2 = 0)) (k0 (Int.tmod x1 x2)))
noncomputable def q73 {R : Type} : q73_ty R := fun x1 x2 k0 => q73_X x1 x2 k0
theorem q73_ok {R : Type} (x1 : Int) (x2 : Int) (k : V → Heap → Option R) : funK tt (q73_E R) (q73_T R) false Tryz.f27 (codeOf Tryz.f27) [.int .i64 x1, .int .i64 x2] [] k =
    q73_X x1 x2 (fun q0 => k (.int .i64 q0) []) := by kernel_rfl
theorem q73_loops (R : Type) : ∀ a ∈ loopsOf (codeOf Tryz.f27), LoopOk tt (q73_E R) (q73_T R) 0 a := by
  refine loops_ok 0 (by kernel_rfl) fun i hi => ?_
  omega
theorem q73_S_ok (R : Type) (other : Yard.Spec R) (ho : Yard.Spec.Ok Tryz.prog 27 other) : Yard.Spec.Ok Tryz.prog 27 (specBy q73_p q73_q (q73_rr q73) other) :=
  specBy_ok ho (funK_sound TT mixed (q73_EOk R) (keep := false) rfl rfl rfl rfl 0 (q73_loops R)) fun (x : Pat.dens q73_p) (y : HPat.dens q73_q) k => q73_ok x.1 x.2.1 k
/-! ### humpyard/humpyardlaw02.pick -/
abbrev q72_ty (R : Type) : Type := Int → Int → (Int → Option R) → Option R
abbrev q72_p : List Pat := [.leaf (.int .i64), .leaf (.int .i64)]
abbrev q72_q : List HPat := []
noncomputable def q72_rr {R : Type} (fn : q72_ty R) : Pat.dens q72_p → HPat.dens q72_q → (V → Heap → Option R) → Option R := fun x y k => fn x.1 x.2.1 (fun q0 => k (.int .i64 q0) [])
noncomputable def q72_E (R : Type) : Env R := fun i => match i with
  | _ => none
theorem q72_EOk (R : Type) : EOk Tryz.prog (q72_E R) := by
  intro i b sp h
  unfold q72_E at h
  split at h
  · cases h
noncomputable def q72_T (R : Type) : Nat → Option (Hint × LSpec R) := fun i => match i with
  | _ => none
noncomputable def q72_X {R : Type} (x1 : Int) (x2 : Int) (k0 : Int → Option R) : Option R :=
  bif (decide (x1 < (0 : Int))) then (chk (!decide (x2 = 0)) (k0 (Int.tmod (IntKind.i64.wrap (0 - (IntKind.i64.wrap (x1 + 1)))) x2))) else (chk (!decide (x2 = 0)) (k0 (Int.tmod x1 x2)))
noncomputable def q72 {R : Type} : q72_ty R := fun x1 x2 k0 => q72_X x1 x2 k0
theorem q72_ok {R : Type} (x1 : Int) (x2 : Int) (k : V → Heap → Option R) : funK tt (q72_E R) (q72_T R) false Tryz.f60 (codeOf Tryz.f60) [.int .i64 x1, .int .i64 x2] [] k =
    q72_X x1 x2 (fun q0 => k (.int .i64 q0) []) := by kernel_rfl
theorem q72_loops (R : Type) : ∀ a ∈ loopsOf (codeOf Tryz.f60), LoopOk tt (q72_E R) (q72_T R) 0 a := by
  refine loops_ok 0 (by kernel_rfl) fun i hi => ?_
  omega
theorem q72_S_ok (R : Type) (other : Yard.Spec R) (ho : Yard.Spec.Ok Tryz.prog 60 other) : Yard.Spec.Ok Tryz.prog 60 (specBy q72_p q72_q (q72_rr q72) other) :=
  specBy_ok ho (funK_sound TT mixed (q72_EOk R) (keep := false) rfl rfl rfl rfl 0 (q72_loops R)) fun (x : Pat.dens q72_p) (y : HPat.dens q72_q) k => q72_ok x.1 x.2.1 k
/-! ### humpyard/humpyardlaw02.Text -/
abbrev q78_ty (R : Type) : Type := (List Int) → (Str → Option R) → Option R
abbrev q78_p : List Pat := [.leaf (.sl (.int .i64))]
abbrev q78_q : List HPat := []
noncomputable def q78_rr {R : Type} (fn : q78_ty R) : Pat.dens q78_p → HPat.dens q78_q → (V → Heap → Option R) → Option R := fun x y k => fn x.1 (fun q0 => k (.str q0) [])
abbrev q78_3_0_ty (R : Type) : Type := Nat → (List Int) → Str → Int → (Str → Option R) → Option R
noncomputable def q78_E (R : Type) (q72 : q72_ty R) : Env R := fun i => match i with
  | 60 => some (true, (specBy q72_p q72_q (q72_rr q72) specNo))
  | _ => none
theorem q78_EOk (R : Type) : EOk Tryz.prog (q78_E R q72) := by
  intro i b sp h
  unfold q78_E at h
  split at h
  · cases h; exact ⟨(q72_S_ok R _ (specNo_ok _)), fun h => nomatch h⟩
  · cases h
noncomputable def q78_3_0_B {R : Type} (q72 : q72_ty R) (rec' : (List Int) → Str → Int → Option R) (x2 : List Int) (x3 : Str) (x4 : Int) (e0 : Str → Option R) : Option R :=
  bif (decide (x4 < (x2.length : Int))) then (bif (decide (x4 < (200 : Int))) then (chk (decide ((0 : Int) ≤ x4) && decide (x4 < x2.length)) (let j16 := fun (z13 : Int) => bif (decide (z13 ≥ (55296 : Int))) then (bif (decide (z13 ≤ (57343 : Int))) then (chk (decide (x3.length + (runesB ([120] : List Int)).length ≤ 9223372036854775807)) (rec' x2 (x3 ++ (runesB ([120] : List Int))) (IntKind.i64.wrap (x4 + 1)))) else (chk (decide (x3.length + (runesB ([(IntKind.i32.wrap z13)] : List Int)).length ≤ 9223372036854775807)) (rec' x2 (x3 ++ (runesB ([(IntKind.i32.wrap z13)] : List Int))) (IntKind.i64.wrap (x4 + 1))))) else (chk (decide (x3.length + (runesB ([(IntKind.i32.wrap z13)] : List Int)).length ≤ 9223372036854775807)) (rec' x2 (x3 ++ (runesB ([(IntKind.i32.wrap z13)] : List Int))) (IntKind.i64.wrap (x4 + 1)))); q72 (x2.getD x4.toNat (Ty.dflt (.int .i64))) 5 (fun y6 => let j12 := fun (z7 : Bool) => bif z7 then (q72 (IntKind.i64.wrap (Int.tdiv (x2.getD x4.toNat (Ty.dflt (.int .i64))) 5)) 128 (fun y8 => j16 y8)) else (bif (y6 == 2) then (q72 (IntKind.i64.wrap (Int.tdiv (x2.getD x4.toNat (Ty.dflt (.int .i64))) 5)) 2048 (fun y9 => j16 y9)) else (bif (y6 == 3) then (q72 (IntKind.i64.wrap (Int.tdiv (x2.getD x4.toNat (Ty.dflt (.int .i64))) 5)) 65536 (fun y10 => j16 y10)) else (q72 (IntKind.i64.wrap (Int.tdiv (x2.getD x4.toNat (Ty.dflt (.int .i64))) 5)) 1114112 (fun y11 => j16 y11)))); bif (y6 == 0) then (j12 (y6 == 0)) else (j12 (y6 == 1))))) else (e0 x3)) else (e0 x3)
noncomputable def q78_3_0_L {R : Type} : q78_3_0_ty R
  | 0, _, _, _, _ => none
  | n + 1, x0', x1', x2', e0 => q78_3_0_B q72 (fun x0' x1' x2' => q78_3_0_L n x0' x1' x2' e0) x0' x1' x2' e0
noncomputable def q78_3_0_h : Hint := { live := [0, 3, 4], own := [], rows := [], cells := [], drop := [], out := [2, 3] }
abbrev q78_3_0_D : Type := (List Int) × Str × Int
noncomputable def q78_3_0_enc : q78_3_0_D → St := fun d => ⟨[.sl (.int .i64) d.1 .no, .undef, .undef, .str d.2.1, .int .i64 d.2.2, .undef, .undef, .undef, .undef, .undef, .undef, .undef, .undef, .undef, .undef, .undef, .undef, .undef, .undef, .undef, .undef, .undef, .undef, .undef, .undef, .undef, .undef, .undef, .undef, .undef, .undef, .undef, .undef, .undef, .undef, .undef, .undef, .undef, .undef, .undef, .undef, .undef, .undef, .undef, .undef, .undef, .undef, .undef, .undef, .undef, .undef, .undef, .undef, .undef, .undef], []⟩
noncomputable def q78_3_0_x0 {R : Type} (K : Ex → St → Option R) (q0 : Str) : Option R := K (.exit 0) ⟨[.undef, .undef, .undef, .str q0, .undef, .undef, .undef, .undef, .undef, .undef, .undef, .undef, .undef, .undef, .undef, .undef, .undef, .undef, .undef, .undef, .undef, .undef, .undef, .undef, .undef, .undef, .undef, .undef, .undef, .undef, .undef, .undef, .undef, .undef, .undef, .undef, .undef, .undef, .undef, .undef, .undef, .undef, .undef, .undef, .undef, .undef, .undef, .undef, .undef, .undef, .undef, .undef, .undef, .undef, .undef], []⟩
noncomputable def q78_3_0_s {R : Type} (q72 : q72_ty R) (K : Ex → St → Option R) (rc : q78_3_0_D → Option R) (d : q78_3_0_D) : Option R := q78_3_0_B q72 (fun z0 z1 z2 => rc (z0, z1, z2)) d.1 d.2.1 d.2.2 (q78_3_0_x0 K)
noncomputable def q78_3_0_A {R : Type} (K : Ex → St → Option R) (n : Nat) (d : q78_3_0_D) : Option R := q78_3_0_L n d.1 d.2.1 d.2.2 (q78_3_0_x0 K)
abbrev q78_3_0_p : List Pat := [.leaf (.sl (.int .i64)), .leaf (.undef), .leaf (.undef), .leaf (.str), .leaf (.int .i64), .leaf (.undef), .leaf (.undef), .leaf (.undef), .leaf (.undef), .leaf (.undef), .leaf (.undef), .leaf (.undef), .leaf (.undef), .leaf (.undef), .leaf (.undef), .leaf (.undef), .leaf (.undef), .leaf (.undef), .leaf (.undef), .leaf (.undef), .leaf (.undef), .leaf (.undef), .leaf (.undef), .leaf (.undef), .leaf (.undef), .leaf (.undef), .leaf (.undef), .leaf (.undef), .leaf (.undef), .leaf (.undef), .leaf (.undef), .leaf (.undef), .leaf (.undef), .leaf (.undef), .leaf (.undef), .leaf (.undef), .leaf (.undef), .leaf (.undef), .leaf (.undef), .leaf (.undef), .leaf (.undef), .leaf (.undef), .leaf (.undef), .leaf (.undef), .leaf (.undef), .leaf (.undef), .leaf (.undef), .leaf (.undef), .leaf (.undef), .leaf (.undef), .leaf (.undef), .leaf (.undef), .leaf (.undef), .leaf (.undef), .leaf (.undef)]
abbrev q78_3_0_q : List HPat := []
noncomputable def q78_3_0_f (x : Pat.dens q78_3_0_p) (y : HPat.dens q78_3_0_q) : Nat := (List.length x.1 + List.length x.2.2.2.1 + Int.natAbs x.2.2.2.2.1 + 64)
noncomputable def q78_3_0_d (x : Pat.dens q78_3_0_p) (y : HPat.dens q78_3_0_q) : q78_3_0_D := (x.1, x.2.2.2.1, x.2.2.2.2.1)
noncomputable def q78_3_0_rr {R : Type} (L : q78_3_0_ty R) : Pat.dens q78_3_0_p → HPat.dens q78_3_0_q → (Ex → St → Option R) → Option R := fun x y K => L (q78_3_0_f x y) x.1 x.2.2.2.1 x.2.2.2.2.1 (q78_3_0_x0 K)
noncomputable def q78_T (R : Type) (q78_3_0_L : q78_3_0_ty R) : Nat → Option (Hint × LSpec R) := fun i => match i with
  | 3 => some (q78_3_0_h, (loopBy q78_3_0_p q78_3_0_q (q78_3_0_rr q78_3_0_L) loopNo))
  | _ => none
theorem q78_3_0_B_ok {R : Type} (q72 : q72_ty R) (q78_3_0_L : q78_3_0_ty R) (K : Ex → St → Option R) (rc : St → Option R) (d : q78_3_0_D) : roundOf tt (q78_E R q72) (q78_T R q78_3_0_L) 0 ((loopsOf (codeOf Tryz.f37)).getD 0 .skip) q78_3_0_h (q78_3_0_enc d) rc K = q78_3_0_s q72 K (fun d => rc (q78_3_0_enc d)) d := by kernel_rfl
theorem q78_3_0_A_succ {R : Type} (K : Ex → St → Option R) (n : Nat) (d : q78_3_0_D) : q78_3_0_A K (n + 1) d = q78_3_0_s q72 K (q78_3_0_A K n) d := by kernel_rfl
theorem q78_3_0_A_zero {R : Type} (K : Ex → St → Option R) (d : q78_3_0_D) : q78_3_0_A K 0 d = none := by kernel_rfl
theorem q78_3_0_e_ok (x : Pat.dens q78_3_0_p) (y : HPat.dens q78_3_0_q) : (⟨Pat.encL q78_3_0_p x, HPat.encL q78_3_0_q y⟩ : St) = q78_3_0_enc (q78_3_0_d x y) := by kernel_rfl
theorem q78_3_0_r_ok {R : Type} (x : Pat.dens q78_3_0_p) (y : HPat.dens q78_3_0_q) (K : Ex → St → Option R) : q78_3_0_rr (q78_3_0_L) x y K = q78_3_0_A K (q78_3_0_f x y) (q78_3_0_d x y) := by kernel_rfl
theorem q78_3_0_ok {R : Type} (other : LSpec R) (ho : LsOk tt (q78_E R q72) (q78_T R q78_3_0_L) 0 ((loopsOf (codeOf Tryz.f37)).getD 0 .skip) q78_3_0_h other) : LsOk tt (q78_E R q72) (q78_T R q78_3_0_L) 0 ((loopsOf (codeOf Tryz.f37)).getD 0 .skip) q78_3_0_h (loopBy q78_3_0_p q78_3_0_q (q78_3_0_rr (q78_3_0_L)) other) :=
  loopBy_tie (A := q78_3_0_A) ho (loop_tie q78_3_0_enc (q78_3_0_s q72) (q78_3_0_A) (q78_3_0_A_zero) (q78_3_0_B_ok q72 q78_3_0_L) (q78_3_0_A_succ)) q78_3_0_f q78_3_0_d q78_3_0_e_ok (q78_3_0_r_ok)
noncomputable def q78_X {R : Type} (q78_3_0_L : q78_3_0_ty R) (x1 : List Int) (k0 : Str → Option R) : Option R :=
  q78_3_0_L (List.length x1 + List.length ([] : Str) + Int.natAbs 0 + 64) x1 ([] : Str) 0 (fun y18 => k0 y18)
noncomputable def q78 {R : Type} : q78_ty R := fun x1 k0 => q78_X q78_3_0_L x1 k0
theorem q78_ok {R : Type} (q72 : q72_ty R) (q78_3_0_L : q78_3_0_ty R) (x1 : List Int) (k : V → Heap → Option R) : funK tt (q78_E R q72) (q78_T R q78_3_0_L) false Tryz.f37 (codeOf Tryz.f37) [.sl (.int .i64) x1 .no] [] k =
    q78_X q78_3_0_L x1 (fun q0 => k (.str q0) []) := by kernel_rfl
theorem q78_loops (R : Type) : ∀ a ∈ loopsOf (codeOf Tryz.f37), LoopOk tt (q78_E R q72) (q78_T R q78_3_0_L) 0 a := by
  refine loops_ok 1 (by kernel_rfl) fun i hi => ?_
  match i, hi with
  | 0, _ => exact loopOk_some (by kernel_rfl) (q78_3_0_ok _ loopNo_ok)
  | n + 1, hi => omega
theorem q78_S_ok (R : Type) (other : Yard.Spec R) (ho : Yard.Spec.Ok Tryz.prog 37 other) : Yard.Spec.Ok Tryz.prog 37 (specBy q78_p q78_q (q78_rr q78) other) :=
  specBy_ok ho (funK_sound TT mixed (q78_EOk R) (keep := false) rfl rfl rfl rfl 0 (q78_loops R)) fun (x : Pat.dens q78_p) (y : HPat.dens q78_q) k => q78_ok q72 q78_3_0_L x.1 k
/-! ### humpyard/quote.Whole -/
abbrev q68_ty (R : Type) : Type := Str → (Bool → Option R) → Option R
abbrev q68_p : List Pat := [.leaf (.str)]
abbrev q68_q : List HPat := []
noncomputable def q68_rr {R : Type} (fn : q68_ty R) : Pat.dens q68_p → HPat.dens q68_q → (V → Heap → Option R) → Option R := fun x y k => fn x.1 (fun q0 => k (.bool q0) [])
noncomputable def q68_E (R : Type) : Env R := fun i => match i with
  | 72 => some (true, (valid_S R))
  | _ => none
theorem q68_EOk (R : Type) : EOk Tryz.prog (q68_E R) := by
  intro i b sp h
  unfold q68_E at h
  split at h
  · cases h; exact ⟨(valid_ok), fun h => nomatch h⟩
  · cases h
noncomputable def q68_T (R : Type) : Nat → Option (Hint × LSpec R) := fun i => match i with
  | _ => none
noncomputable def q68_X {R : Type} (x1 : Str) (k0 : Bool → Option R) : Option R :=
  k0 (validS x1)
noncomputable def q68 {R : Type} : q68_ty R := fun x1 k0 => q68_X x1 k0
theorem q68_ok {R : Type} (x1 : Str) (k : V → Heap → Option R) : funK tt (q68_E R) (q68_T R) false Tryz.f49 (codeOf Tryz.f49) [.str x1] [] k =
    q68_X x1 (fun q0 => k (.bool q0) []) := by kernel_rfl
theorem q68_loops (R : Type) : ∀ a ∈ loopsOf (codeOf Tryz.f49), LoopOk tt (q68_E R) (q68_T R) 0 a := by
  refine loops_ok 0 (by kernel_rfl) fun i hi => ?_
  omega
theorem q68_S_ok (R : Type) (other : Yard.Spec R) (ho : Yard.Spec.Ok Tryz.prog 49 other) : Yard.Spec.Ok Tryz.prog 49 (specBy q68_p q68_q (q68_rr q68) other) :=
  specBy_ok ho (funK_sound TT mixed (q68_EOk R) (keep := false) rfl rfl rfl rfl 0 (q68_loops R)) fun (x : Pat.dens q68_p) (y : HPat.dens q68_q) k => q68_ok x.1 k
/-! ### (*strings.Builder).WriteByte -/
abbrev q26_ty (R : Type) : Type := Int → ((List Int) → Option R) → Option R
abbrev q26_p : List Pat := [.leaf (.ptr 0 0), .leaf (.int .u8)]
abbrev q26_q : List HPat := [.bld (.nilsl)]
noncomputable def q26_rr {R : Type} (fn : q26_ty R) : Pat.dens q26_p → HPat.dens q26_q → (V → Heap → Option R) → Option R := fun x y k => fn x.2.1 (fun q0 => k (.niliface) [.bld (.sl (.int .u8) q0 (.own 1)), .tok])
noncomputable def q26_E (R : Type) : Env R := fun i => match i with
  | 73 => some (false, (bcc_S R))
  | _ => none
theorem q26_EOk (R : Type) : EOk Tryz.prog (q26_E R) := by
  intro i b sp h
  unfold q26_E at h
  split at h
  · cases h; exact ⟨(bcc_is), fun _ h => nomatch h⟩
  · cases h
noncomputable def q26_T (R : Type) : Nat → Option (Hint × LSpec R) := fun i => match i with
  | _ => none
noncomputable def q26_X {R : Type} (x1 : Int) (k0 : (List Int) → Option R) : Option R :=
  k0 ([x1] : List Int)
noncomputable def q26 {R : Type} : q26_ty R := fun x1 k0 => q26_X x1 k0
theorem q26_ok {R : Type} (x1 : Int) (k : V → Heap → Option R) : funK tt (q26_E R) (q26_T R) false Tryz.f50 (codeOf Tryz.f50) [.ptr 0 0, .int .u8 x1] [.bld (.nilsl)] k =
    q26_X x1 (fun q0 => k (.niliface) [.bld (.sl (.int .u8) q0 (.own 1)), .tok]) := by kernel_rfl
theorem q26_loops (R : Type) : ∀ a ∈ loopsOf (codeOf Tryz.f50), LoopOk tt (q26_E R) (q26_T R) 1 a := by
  refine loops_ok 0 (by kernel_rfl) fun i hi => ?_
  omega
theorem q26_S_ok (R : Type) (other : Yard.Spec R) (ho : Yard.Spec.Ok Tryz.prog 50 other) : Yard.Spec.Ok Tryz.prog 50 (specBy q26_p q26_q (q26_rr q26) other) :=
  specBy_ok ho (funK_sound TT mixed (q26_EOk R) (keep := false) rfl rfl rfl rfl 1 (q26_loops R)) fun (x : Pat.dens q26_p) (y : HPat.dens q26_q) k => q26_ok x.2.1 k
/-! ### humpyard/quote.short -/
abbrev q71_ty (R : Type) : Type := Int → (Int → Option R) → Option R
abbrev q71_p : List Pat := [.leaf (.int .i32)]
abbrev q71_q : List HPat := []
noncomputable def q71_rr {R : Type} (fn : q71_ty R) : Pat.dens q71_p → HPat.dens q71_q → (V → Heap → Option R) → Option R := fun x y k => fn x.1 (fun q0 => k (.int .u8 q0) [])
noncomputable def q71_E (R : Type) : Env R := fun i => match i with
  | _ => none
theorem q71_EOk (R : Type) : EOk Tryz.prog (q71_E R) := by
  intro i b sp h
  unfold q71_E at h
  split at h
  · cases h
noncomputable def q71_T (R : Type) : Nat → Option (Hint × LSpec R) := fun i => match i with
  | _ => none
noncomputable def q71_X {R : Type} (x1 : Int) (k0 : Int → Option R) : Option R :=
  bif (x1 == 34) then (bif (x1 == 34) then (k0 (IntKind.u8.wrap x1)) else (bif (x1 == 8) then (k0 98) else (bif (x1 == 12) then (k0 102) else (bif (x1 == 10) then (k0 110) else (bif (x1 == 13) then (k0 114) else (bif (x1 == 9) then (k0 116) else (k0 0))))))) else (bif (x1 == 92) then (k0 (IntKind.u8.wrap x1)) else (bif (x1 == 8) then (k0 98) else (bif (x1 == 12) then (k0 102) else (bif (x1 == 10) then (k0 110) else (bif (x1 == 13) then (k0 114) else (bif (x1 == 9) then (k0 116) else (k0 0)))))))
noncomputable def q71 {R : Type} : q71_ty R := fun x1 k0 => q71_X x1 k0
theorem q71_ok {R : Type} (x1 : Int) (k : V → Heap → Option R) : funK tt (q71_E R) (q71_T R) false Tryz.f51 (codeOf Tryz.f51) [.int .i32 x1] [] k =
    q71_X x1 (fun q0 => k (.int .u8 q0) []) := by kernel_rfl
theorem q71_loops (R : Type) : ∀ a ∈ loopsOf (codeOf Tryz.f51), LoopOk tt (q71_E R) (q71_T R) 0 a := by
  refine loops_ok 0 (by kernel_rfl) fun i hi => ?_
  omega
theorem q71_S_ok (R : Type) (other : Yard.Spec R) (ho : Yard.Spec.Ok Tryz.prog 51 other) : Yard.Spec.Ok Tryz.prog 51 (specBy q71_p q71_q (q71_rr q71) other) :=
  specBy_ok ho (funK_sound TT mixed (q71_EOk R) (keep := false) rfl rfl rfl rfl 0 (q71_loops R)) fun (x : Pat.dens q71_p) (y : HPat.dens q71_q) k => q71_ok x.1 k
/-! ### (*strings.Builder).WriteByte -/
abbrev q25_ty (R : Type) : Type := Int → (List Int) → ((List Int) → Option R) → Option R
abbrev q25_p : List Pat := [.leaf (.ptr 0 0), .leaf (.int .u8)]
abbrev q25_q : List HPat := [.bld (.slo (.int .u8) 1), .tok]
noncomputable def q25_rr {R : Type} (fn : q25_ty R) : Pat.dens q25_p → HPat.dens q25_q → (V → Heap → Option R) → Option R := fun x y k => fn x.2.1 y.1 (fun q0 => k (.niliface) [.bld (.sl (.int .u8) q0 (.own 2)), .dead, .tok])
noncomputable def q25_E (R : Type) : Env R := fun i => match i with
  | 73 => some (false, (bcc_S R))
  | _ => none
theorem q25_EOk (R : Type) : EOk Tryz.prog (q25_E R) := by
  intro i b sp h
  unfold q25_E at h
  split at h
  · cases h; exact ⟨(bcc_is), fun _ h => nomatch h⟩
  · cases h
noncomputable def q25_T (R : Type) : Nat → Option (Hint × LSpec R) := fun i => match i with
  | _ => none
noncomputable def q25_X {R : Type} (x1 : Int) (x2 : List Int) (k0 : (List Int) → Option R) : Option R :=
  chk (decide ((x2.length + 1) * 1 ≤ 140737488355328)) (k0 ((x2 : List Int) ++ (([x1] : List Int) : List Int)))
noncomputable def q25 {R : Type} : q25_ty R := fun x1 x2 k0 => q25_X x1 x2 k0
theorem q25_ok {R : Type} (x1 : Int) (x2 : List Int) (k : V → Heap → Option R) : funK tt (q25_E R) (q25_T R) false Tryz.f50 (codeOf Tryz.f50) [.ptr 0 0, .int .u8 x1] [.bld (.sl (.int .u8) x2 (.own 1)), .tok] k =
    q25_X x1 x2 (fun q0 => k (.niliface) [.bld (.sl (.int .u8) q0 (.own 2)), .dead, .tok]) := by kernel_rfl
theorem q25_loops (R : Type) : ∀ a ∈ loopsOf (codeOf Tryz.f50), LoopOk tt (q25_E R) (q25_T R) 2 a := by
  refine loops_ok 0 (by kernel_rfl) fun i hi => ?_
  omega
theorem q25_S_ok (R : Type) (other : Yard.Spec R) (ho : Yard.Spec.Ok Tryz.prog 50 other) : Yard.Spec.Ok Tryz.prog 50 (specBy q25_p q25_q (q25_rr q25) other) :=
  specBy_ok ho (funK_sound TT mixed (q25_EOk R) (keep := false) rfl rfl rfl rfl 2 (q25_loops R)) fun (x : Pat.dens q25_p) (y : HPat.dens q25_q) k => q25_ok x.2.1 y.1 k
/-! ### (*strings.Builder).WriteString -/
abbrev q21_ty (R : Type) : Type := Str → (List Int) → (Int → (List Int) → Option R) → Option R
abbrev q21_p : List Pat := [.leaf (.ptr 0 0), .leaf (.str)]
abbrev q21_q : List HPat := [.bld (.slo (.int .u8) 1), .tok]
noncomputable def q21_rr {R : Type} (fn : q21_ty R) : Pat.dens q21_p → HPat.dens q21_q → (V → Heap → Option R) → Option R := fun x y k => fn x.2.1 y.1 (fun q0 q1 => k (.tuple [.int .i64 q0, .niliface]) [.bld (.sl (.int .u8) q1 (.own 2)), .dead, .tok])
noncomputable def q21_E (R : Type) : Env R := fun i => match i with
  | 73 => some (false, (bcc_S R))
  | _ => none
theorem q21_EOk (R : Type) : EOk Tryz.prog (q21_E R) := by
  intro i b sp h
  unfold q21_E at h
  split at h
  · cases h; exact ⟨(bcc_is), fun _ h => nomatch h⟩
  · cases h
noncomputable def q21_T (R : Type) : Nat → Option (Hint × LSpec R) := fun i => match i with
  | _ => none
noncomputable def q21_X {R : Type} (x1 : Str) (x2 : List Int) (k0 : Int → (List Int) → Option R) : Option R :=
  chk (decide ((x2.length + (bytesN x1).length) * 1 ≤ 140737488355328)) (k0 (x1.length : Int) ((x2 : List Int) ++ ((bytesN x1) : List Int)))
noncomputable def q21 {R : Type} : q21_ty R := fun x1 x2 k0 => q21_X x1 x2 k0
theorem q21_ok {R : Type} (x1 : Str) (x2 : List Int) (k : V → Heap → Option R) : funK tt (q21_E R) (q21_T R) false Tryz.f52 (codeOf Tryz.f52) [.ptr 0 0, .str x1] [.bld (.sl (.int .u8) x2 (.own 1)), .tok] k =
    q21_X x1 x2 (fun q0 q1 => k (.tuple [.int .i64 q0, .niliface]) [.bld (.sl (.int .u8) q1 (.own 2)), .dead, .tok]) := by kernel_rfl
theorem q21_loops (R : Type) : ∀ a ∈ loopsOf (codeOf Tryz.f52), LoopOk tt (q21_E R) (q21_T R) 2 a := by
  refine loops_ok 0 (by kernel_rfl) fun i hi => ?_
  omega
theorem q21_S_ok (R : Type) (other : Yard.Spec R) (ho : Yard.Spec.Ok Tryz.prog 52 other) : Yard.Spec.Ok Tryz.prog 52 (specBy q21_p q21_q (q21_rr q21) other) :=
  specBy_ok ho (funK_sound TT mixed (q21_EOk R) (keep := false) rfl rfl rfl rfl 2 (q21_loops R)) fun (x : Pat.dens q21_p) (y : HPat.dens q21_q) k => q21_ok x.2.1 y.1 k
end Go.Proofs.YtmlkkgfenfdndaaGreatDoor
set_option maxRecDepth 100000
namespace Go.Proofs.YtmlkkgfenfdndaaGreatDoor
open Go Go.Yard
def I64 (n : Int) : Prop := -9223372036854775808 ≤ n ∧ n ≤ 9223372036854775807
theorem i64_has {n : Int} : IntKind.i64.has n ↔ I64 n := by
  unfold IntKind.has I64
  simp only [IntKind.min, IntKind.max, IntKind.bits, IntKind.signed]
  simp
theorem pick_raw {R : Type} (c n : Int) (hc : I64 c) (h0 : 0 < n) (hn : n ≤ 9223372036854775807) : ∃ r : Int, 0 ≤ r ∧ r < n ∧ ∀ k : Int → Option R,
    (bif (decide (c < (0 : Int))) then (chk (!decide (n = 0)) (k (Int.tmod (IntKind.i64.wrap (0 - (IntKind.i64.wrap (c + 1)))) n))) else (chk (!decide (n = 0)) (k (Int.tmod c n)))) = k r := by
  obtain ⟨h1, h2⟩ := hc
  have hz : (!decide (n = 0)) = true := by simp; omega
  by_cases h : c < 0
  · refine ⟨Int.tmod (0 - (c + 1)) n, Int.tmod_nonneg _ (by omega), Int.tmod_lt_of_pos _ h0, fun k => ?_⟩
    have hd : decide (c < (0 : Int)) = true := by simpa using h
    rw [hd, cond_true, chk_pos hz, wrap_id (n := c + 1) (by omega) (by omega), wrap_id (by omega) (by omega)]
  · refine ⟨Int.tmod c n, Int.tmod_nonneg _ (by omega), Int.tmod_lt_of_pos _ h0, fun k => ?_⟩
    have hd : decide (c < (0 : Int)) = false := by simpa using h
    rw [hd, cond_false, chk_pos hz]
theorem pick02 {R : Type} (c n : Int) (hc : I64 c) (h0 : 0 < n) (hn : n ≤ 9223372036854775807) : ∃ r : Int, 0 ≤ r ∧ r < n ∧ ∀ k : Int → Option R, q72 c n k = k r := pick_raw c n hc h0 hn
theorem wrap32_id {n : Int} (h1 : 0 ≤ n) (h2 : n < 1114112) : IntKind.i32.wrap n = n := by
  simp only [IntKind.wrap, IntKind.bits, IntKind.signed, IntKind.min, IntKind.max]
  simp
  omega
theorem encode_enc {c : Nat} (hv : vr c) : (Utf8.encode (c : Int)).data.toList = enc c := by
  have hlt := vr_lt hv
  have hval : Utf8.valid (c : Int) = true := by
    unfold vr at hv
    simp only [Utf8.valid, Bool.or_eq_true, Bool.and_eq_true, decide_eq_true_eq]
    omega
  unfold Utf8.encode
  simp only [hval, if_true, Int.toNat_natCast]
  by_cases h1 : c < 128
  · rw [if_pos h1, enc1 h1]
  by_cases h2 : c < 2048
  · rw [if_neg h1, if_pos h2, enc2 (by omega) h2]
  by_cases h3 : c < 65536
  · rw [if_neg h1, if_neg h2, if_pos h3, enc3 (by omega) h3 hv]
  · rw [if_neg h1, if_neg h2, if_neg h3, enc4 (by omega) hlt]
theorem runesB_enc {c : Nat} (hv : vr c) : runesB [(c : Int)] = enc c := by
  unfold runesB
  simp only [List.flatMap_cons, List.flatMap_nil, List.append_nil]
  exact encode_enc hv
theorem encL_snoc (rs : List Nat) (c : Nat) : encL (rs ++ [c]) = encL rs ++ enc c := by simp [encL]
theorem dtrue {p : Prop} [Decidable p] (h : p) : decide p = true := decide_eq_true h
theorem dfalse {p : Prop} [Decidable p] (h : ¬ p) : decide p = false := decide_eq_false h
def runeOf (z : Int) : Nat := if 55296 ≤ z ∧ z ≤ 57343 then 120 else z.toNat
theorem runeOf_vr {z : Int} (h0 : 0 ≤ z) (h1 : z < 1114112) : vr (runeOf z) := by unfold runeOf vr; split <;> omega
theorem text_add {R : Type} (raw : List Int) (s : Str) (i : Nat) (rec' : List Int → Str → Int → Option R) {z : Int} (h0 : 0 ≤ z) (h1 : z < 1114112) (hl : s.length ≤ 4 * i) (hi : i < 200) :
    (bif (decide (z ≥ (55296 : Int))) then (bif (decide (z ≤ (57343 : Int))) then (chk (decide (s.length + (runesB ([120] : List Int)).length ≤ 9223372036854775807)) (rec' raw (s ++ (runesB ([120] : List Int))) (IntKind.i64.wrap ((i : Int) + 1)))) else (chk (decide (s.length + (runesB ([(IntKind.i32.wrap z)] : List Int)).length ≤ 9223372036854775807)) (rec' raw (s ++ (runesB ([(IntKind.i32.wrap z)] : List Int))) (IntKind.i64.wrap ((i : Int) + 1))))) else (chk (decide (s.length + (runesB ([(IntKind.i32.wrap z)] : List Int)).length ≤ 9223372036854775807)) (rec' raw (s ++ (runesB ([(IntKind.i32.wrap z)] : List Int))) (IntKind.i64.wrap ((i : Int) + 1))))) =
      rec' raw (s ++ enc (runeOf z)) ((i + 1 : Nat) : Int) := by
  have hw : IntKind.i64.wrap ((i : Int) + 1) = ((i + 1 : Nat) : Int) := by rw [wrap_id (by omega) (by omega)]; omega
  have hv := runeOf_vr h0 h1
  have hle := enc_len hv
  by_cases hb : 55296 ≤ z ∧ z ≤ 57343
  · have e : runesB [120] = enc (runeOf z) := by unfold runeOf at hv ⊢; rw [if_pos hb] at hv ⊢; exact runesB_enc hv
    rw [dtrue (show z ≥ 55296 from hb.1), cond_true, dtrue hb.2, cond_true, e, chk_pos (dtrue (by omega)), hw]
  · have e : runesB [IntKind.i32.wrap z] = enc (runeOf z) := by
      unfold runeOf at hv ⊢; rw [if_neg hb] at hv ⊢
      rw [← runesB_enc hv, wrap32_id h0 h1, Int.toNat_of_nonneg h0]
    by_cases hc : z ≥ 55296
    · rw [dtrue hc, cond_true, dfalse (show ¬ z ≤ 57343 by omega), cond_false, e, chk_pos (dtrue (by omega)), hw]
    · rw [dfalse hc, cond_false, e, chk_pos (dtrue (by omega)), hw]
theorem tdiv_i64 {n k : Int} (h : I64 n) (hk : 1 < k) : I64 (Int.tdiv n k) := by
  have h1 : (Int.tdiv n k).natAbs ≤ n.natAbs := by rw [Int.natAbs_tdiv]; exact Nat.div_le_self _ _
  have h2 : (Int.tdiv n k).natAbs = n.natAbs / k.natAbs := Int.natAbs_tdiv _ _
  unfold I64 at h ⊢
  have h3 : n.natAbs / k.natAbs ≤ n.natAbs / 2 := Nat.div_le_div_left (by omega) (by omega)
  omega
theorem text_loop {R : Type} (raw : List Int) (hraw : ∀ x ∈ raw, I64 x) : ∀ (n i : Nat) (rs : List Nat), i ≤ raw.length → raw.length - i < n → i ≤ 200 → (∀ c ∈ rs, vr c) → (encL rs).length ≤ 4 * i →
    ∃ rs' : List Nat, (∀ c ∈ rs', vr c) ∧ (encL rs').length ≤ 800 ∧ (rs.length ≤ i → rs'.length ≤ raw.length) ∧ ∀ e0 : Str → Option R, q78_3_0_L n raw (encL rs) (i : Int) e0 = e0 (encL rs') := by
  intro n
  induction n with
  | zero => intro i rs h1 h2; omega
  | succ n ih =>
    intro i rs h1 h2 h3 hrs hl
    by_cases hi : i < raw.length
    · by_cases hi2 : i < 200
      · have hx : I64 raw[i] := hraw _ (List.getElem_mem hi)
        have hget : raw.getD (i : Int).toNat (Ty.dflt (.int .i64)) = raw[i] := by simp [List.getD, hi]; rfl
        have key : ∀ z : Int, 0 ≤ z → z < 1114112 → ∃ rs' : List Nat, (∀ c ∈ rs', vr c) ∧ (encL rs').length ≤ 800 ∧ (rs.length ≤ i → rs'.length ≤ raw.length) ∧ ∀ e0 : Str → Option R, q78_3_0_L n raw (encL rs ++ enc (runeOf z)) ((i + 1 : Nat) : Int) e0 = e0 (encL rs') := by
          intro z z0 z1
          have hv := runeOf_vr z0 z1
          have hle := enc_len hv
          obtain ⟨rs', q1, q2, qn, q3⟩ := ih (i + 1) (rs ++ [runeOf z]) (by omega) (by omega) (by omega) (by
            intro c hc
            rcases List.mem_append.1 hc with hc | hc
            · exact hrs c hc
            · simp at hc; subst hc; exact hv) (by rw [encL_snoc, List.length_append]; omega)
          exact ⟨rs', q1, q2, fun hn => qn (by simp; omega), fun e0 => by rw [← q3 e0, encL_snoc]⟩
        -- what is picked
        obtain ⟨y6, y60, y61, py⟩ := pick02 (R := R) raw[i] 5 hx (by omega) (by omega)
        have ht : I64 (IntKind.i64.wrap (Int.tdiv raw[i] 5)) := by
          have := tdiv_i64 (k := 5) hx (by omega)
          rw [wrap_id this.1 this.2]; exact this
        obtain ⟨a, a0, a1, pa⟩ := pick02 (R := R) (IntKind.i64.wrap (Int.tdiv raw[i] 5)) 128 ht (by omega) (by omega)
        obtain ⟨b, b0, b1, pb⟩ := pick02 (R := R) (IntKind.i64.wrap (Int.tdiv raw[i] 5)) 2048 ht (by omega) (by omega)
        obtain ⟨d, d0, d1, pd⟩ := pick02 (R := R) (IntKind.i64.wrap (Int.tdiv raw[i] 5)) 65536 ht (by omega) (by omega)
        obtain ⟨f, f0, f1, pf⟩ := pick02 (R := R) (IntKind.i64.wrap (Int.tdiv raw[i] 5)) 1114112 ht (by omega) (by omega)
        obtain ⟨rs', q1, q2, qn, q3⟩ := key (if y6 = 0 ∨ y6 = 1 then a else if y6 = 2 then b else if y6 = 3 then d else f) (by split; omega; split; omega; split <;> omega) (by split; omega; split; omega; split <;> omega)
        refine ⟨rs', q1, q2, qn, fun e0 => ?_⟩
        rw [← q3 e0]
        show q78_3_0_B q72 _ raw (encL rs) (i : Int) e0 = _
        unfold q78_3_0_B
        rw [dtrue (show (i : Int) < (raw.length : Int) by omega), cond_true, dtrue (show (i : Int) < 200 by omega), cond_true, dtrue (show (0 : Int) ≤ (i : Int) by omega)]
        rw [chk_pos (by rfl)]
        simp only [hget, py, pa, pb, pd, pf]
        have add := fun (z : Int) (z0 : 0 ≤ z) (z1 : z < 1114112) => text_add raw (encL rs) i (fun x0' x1' x2' => q78_3_0_L (R := R) n x0' x1' x2' e0) z0 z1 hl hi2
        by_cases c0 : y6 = 0
        · rw [if_pos (.inl c0)]
          have e0' : (y6 == 0) = true := by simp [c0]
          rw [e0', cond_true, cond_true]
          exact add a a0 (by omega)
        · have e0' : (y6 == 0) = false := by simp [c0]
          rw [e0', cond_false]
          by_cases c1 : y6 = 1
          · rw [if_pos (.inr c1)]
            have e1' : (y6 == 1) = true := by simp [c1]
            rw [e1', cond_true]
            exact add a a0 (by omega)
          · have e1' : (y6 == 1) = false := by simp [c1]
            rw [e1', cond_false, if_neg (by omega)]
            by_cases c2 : y6 = 2
            · have e2' : (y6 == 2) = true := by simp [c2]
              rw [e2', cond_true, if_pos c2]
              exact add b b0 (by omega)
            · have e2' : (y6 == 2) = false := by simp [c2]
              rw [e2', cond_false, if_neg c2]
              by_cases c3 : y6 = 3
              · have e3' : (y6 == 3) = true := by simp [c3]
                rw [e3', cond_true, if_pos c3]
                exact add d d0 (by omega)
              · have e3' : (y6 == 3) = false := by simp [c3]
                rw [e3', cond_false, if_neg c3]
                exact add f f0 (by omega)
      · refine ⟨rs, hrs, by omega, fun _ => by omega, fun e0 => ?_⟩
        show q78_3_0_B q72 _ raw (encL rs) (i : Int) e0 = _
        unfold q78_3_0_B
        rw [dtrue (show (i : Int) < (raw.length : Int) by omega), cond_true, dfalse (show ¬ (i : Int) < 200 by omega), cond_false]
    · refine ⟨rs, hrs, by omega, fun _ => by omega, fun e0 => ?_⟩
      show q78_3_0_B q72 _ raw (encL rs) (i : Int) e0 = _
      unfold q78_3_0_B
      rw [dfalse (show ¬ (i : Int) < (raw.length : Int) by omega), cond_false]
theorem text_ok2 {R : Type} (raw : List Int) (hraw : ∀ x ∈ raw, I64 x) : ∃ rs : List Nat, (∀ c ∈ rs, vr c) ∧ (encL rs).length ≤ 800 ∧ rs.length ≤ raw.length ∧ ∀ k : Str → Option R, q78 raw k = k (encL rs) := by
  obtain ⟨rs, h1, h2, h4, h3⟩ := text_loop (R := R) raw hraw (List.length raw + List.length ([] : Str) + Int.natAbs 0 + 64) 0 [] (by omega) (by omega) (by omega) (by simp) (by simp [encL])
  exact ⟨rs, h1, h2, h4 (by simp), fun k => h3 _⟩
end Go.Proofs.YtmlkkgfenfdndaaGreatDoor
namespace Go.Proofs.YtmlkkgfenfdndaaGreatDoor
open Go Go.Yard
end Go.Proofs.YtmlkkgfenfdndaaGreatDoor
/-
  Functions of the program as pure Lean functions, and the ties; printed by wip/tools/emit.py.
-/
set_option maxRecDepth 100000
namespace Go.Proofs.YtmlkkgfenfdndaaGreatDoor
open Go Go.Yard
/-! ### humpyard/lexer.while -/
abbrev q66_ty (R : Type) : Type := Str → Str → (Str → Option R) → Option R
abbrev q66_p : List Pat := [.leaf (.str), .leaf (.str)]
abbrev q66_q : List HPat := []
noncomputable def q66_rr {R : Type} (fn : q66_ty R) : Pat.dens q66_p → HPat.dens q66_q → (V → Heap → Option R) → Option R := fun x y k => fn x.1 x.2.1 (fun q0 => k (.str q0) [])
noncomputable def q66_E (R : Type) : Env R := fun i => match i with
  | 68 => some (true, (trimL_S R))
  | _ => none
theorem q66_EOk (R : Type) : EOk Tryz.prog (q66_E R) := by
  intro i b sp h
  unfold q66_E at h
  split at h
  · cases h; exact ⟨(trimL_ok), fun h => nomatch h⟩
  · cases h
noncomputable def q66_T (R : Type) : Nat → Option (Hint × LSpec R) := fun i => match i with
  | _ => none
noncomputable def q66_X {R : Type} (x1 : Str) (x2 : Str) (k0 : Str → Option R) : Option R :=
  chk (isAsc x2 && decide (x2.length < 4294967281)) (chk (decide ((0 : Int) ≤ (IntKind.i64.wrap ((x1.length : Int) - ((trimL x1 x2).length : Int)))) && decide ((IntKind.i64.wrap ((x1.length : Int) - ((trimL x1 x2).length : Int))) ≤ x1.length)) (chk (decide ((0 : Int) ≤ (IntKind.i64.wrap ((x1.length : Int) - ((trimL x1 x2).length : Int))))) (k0 ((x1.drop 0).take ((IntKind.i64.wrap ((x1.length : Int) - ((trimL x1 x2).length : Int))).toNat - 0)))))
noncomputable def q66 {R : Type} : q66_ty R := fun x1 x2 k0 => q66_X x1 x2 k0
theorem q66_ok {R : Type} (x1 : Str) (x2 : Str) (k : V → Heap → Option R) : funK tt (q66_E R) (q66_T R) false Tryz.f47 (codeOf Tryz.f47) [.str x1, .str x2] [] k =
    q66_X x1 x2 (fun q0 => k (.str q0) []) := by kernel_rfl
theorem q66_loops (R : Type) : ∀ a ∈ loopsOf (codeOf Tryz.f47), LoopOk tt (q66_E R) (q66_T R) 0 a := by
  refine loops_ok 0 (by kernel_rfl) fun i hi => ?_
  omega
theorem q66_S_ok (R : Type) (other : Yard.Spec R) (ho : Yard.Spec.Ok Tryz.prog 47 other) : Yard.Spec.Ok Tryz.prog 47 (specBy q66_p q66_q (q66_rr q66) other) :=
  specBy_ok ho (funK_sound TT mixed (q66_EOk R) (keep := false) rfl rfl rfl rfl 0 (q66_loops R)) fun (x : Pat.dens q66_p) (y : HPat.dens q66_q) k => q66_ok x.1 x.2.1 k
/-! ### (*humpyard/decimal.reader).sign -/
abbrev q38_ty (R : Type) : Type := Str → Str → (Int → Str → Option R) → Option R
abbrev q38_p : List Pat := [.leaf (.ptr 0 0), .leaf (.str)]
abbrev q38_q : List HPat := [.cells [.str]]
noncomputable def q38_rr {R : Type} (fn : q38_ty R) : Pat.dens q38_p → HPat.dens q38_q → (V → Heap → Option R) → Option R := fun x y k => fn x.2.1 y.1.1 (fun q0 q1 => k (.int .u8 q0) [.cells [.str q1]])
noncomputable def q38_E (R : Type) : Env R := fun i => match i with
  | 71 => some (true, (idx_S R))
  | _ => none
theorem q38_EOk (R : Type) : EOk Tryz.prog (q38_E R) := by
  intro i b sp h
  unfold q38_E at h
  split at h
  · cases h; exact ⟨(idx_ok), fun h => nomatch h⟩
  · cases h
noncomputable def q38_T (R : Type) : Nat → Option (Hint × LSpec R) := fun i => match i with
  | _ => none
noncomputable def q38_X {R : Type} (x1 : Str) (x2 : Str) (k0 : Int → Str → Option R) : Option R :=
  bif (x2 == ([] : Str)) then (k0 0 x2) else (chk (decide ((0 : Int) < x2.length)) (bif (decide ((idxByte x1 ((x2.getD 0 0).toNat : Int)) < (0 : Int))) then (k0 0 x2) else (chk (decide ((0 : Int) < x2.length)) (chk (decide ((0 : Int) ≤ (x2.length : Int)) && decide ((x2.length : Int) ≤ x2.length)) (chk (decide ((1 : Int) ≤ (x2.length : Int))) (k0 ((x2.getD 0 0).toNat : Int) ((x2.drop 1).take ((x2.length : Int).toNat - 1))))))))
noncomputable def q38 {R : Type} : q38_ty R := fun x1 x2 k0 => q38_X x1 x2 k0
theorem q38_ok {R : Type} (x1 : Str) (x2 : Str) (k : V → Heap → Option R) : funK tt (q38_E R) (q38_T R) false Tryz.f101 (codeOf Tryz.f101) [.ptr 0 0, .str x1] [.cells [.str x2]] k =
    q38_X x1 x2 (fun q0 q1 => k (.int .u8 q0) [.cells [.str q1]]) := by kernel_rfl
theorem q38_loops (R : Type) : ∀ a ∈ loopsOf (codeOf Tryz.f101), LoopOk tt (q38_E R) (q38_T R) 1 a := by
  refine loops_ok 0 (by kernel_rfl) fun i hi => ?_
  omega
theorem q38_S_ok (R : Type) (other : Yard.Spec R) (ho : Yard.Spec.Ok Tryz.prog 101 other) : Yard.Spec.Ok Tryz.prog 101 (specBy q38_p q38_q (q38_rr q38) other) :=
  specBy_ok ho (funK_sound TT mixed (q38_EOk R) (keep := false) rfl rfl rfl rfl 1 (q38_loops R)) fun (x : Pat.dens q38_p) (y : HPat.dens q38_q) k => q38_ok x.2.1 y.1.1 k
/-! ### (*humpyard/decimal.reader).digits -/
abbrev q32_ty (R : Type) : Type := Str → (Str → Str → Option R) → Option R
abbrev q32_p : List Pat := [.leaf (.ptr 0 0)]
abbrev q32_q : List HPat := [.cells [.str]]
noncomputable def q32_rr {R : Type} (fn : q32_ty R) : Pat.dens q32_p → HPat.dens q32_q → (V → Heap → Option R) → Option R := fun x y k => fn y.1.1 (fun q0 q1 => k (.str q0) [.cells [.str q1]])
noncomputable def q32_E (R : Type) : Env R := fun i => match i with
  | 68 => some (true, (trimL_S R))
  | _ => none
theorem q32_EOk (R : Type) : EOk Tryz.prog (q32_E R) := by
  intro i b sp h
  unfold q32_E at h
  split at h
  · cases h; exact ⟨(trimL_ok), fun h => nomatch h⟩
  · cases h
noncomputable def q32_T (R : Type) : Nat → Option (Hint × LSpec R) := fun i => match i with
  | _ => none
noncomputable def q32_X {R : Type} (x1 : Str) (k0 : Str → Str → Option R) : Option R :=
  chk (isAsc ([48, 49, 50, 51, 52, 53, 54, 55, 56, 57] : Str) && decide (([48, 49, 50, 51, 52, 53, 54, 55, 56, 57] : Str).length < 4294967281)) (chk (decide ((0 : Int) ≤ (IntKind.i64.wrap ((x1.length : Int) - ((trimL x1 ([48, 49, 50, 51, 52, 53, 54, 55, 56, 57] : Str)).length : Int)))) && decide ((IntKind.i64.wrap ((x1.length : Int) - ((trimL x1 ([48, 49, 50, 51, 52, 53, 54, 55, 56, 57] : Str)).length : Int))) ≤ x1.length)) (chk (decide ((0 : Int) ≤ (IntKind.i64.wrap ((x1.length : Int) - ((trimL x1 ([48, 49, 50, 51, 52, 53, 54, 55, 56, 57] : Str)).length : Int))))) (k0 ((x1.drop 0).take ((IntKind.i64.wrap ((x1.length : Int) - ((trimL x1 ([48, 49, 50, 51, 52, 53, 54, 55, 56, 57] : Str)).length : Int))).toNat - 0)) (trimL x1 ([48, 49, 50, 51, 52, 53, 54, 55, 56, 57] : Str)))))
noncomputable def q32 {R : Type} : q32_ty R := fun x1 k0 => q32_X x1 k0
theorem q32_ok {R : Type} (x1 : Str) (k : V → Heap → Option R) : funK tt (q32_E R) (q32_T R) false Tryz.f102 (codeOf Tryz.f102) [.ptr 0 0] [.cells [.str x1]] k =
    q32_X x1 (fun q0 q1 => k (.str q0) [.cells [.str q1]]) := by kernel_rfl
theorem q32_loops (R : Type) : ∀ a ∈ loopsOf (codeOf Tryz.f102), LoopOk tt (q32_E R) (q32_T R) 1 a := by
  refine loops_ok 0 (by kernel_rfl) fun i hi => ?_
  omega
theorem q32_S_ok (R : Type) (other : Yard.Spec R) (ho : Yard.Spec.Ok Tryz.prog 102 other) : Yard.Spec.Ok Tryz.prog 102 (specBy q32_p q32_q (q32_rr q32) other) :=
  specBy_ok ho (funK_sound TT mixed (q32_EOk R) (keep := false) rfl rfl rfl rfl 1 (q32_loops R)) fun (x : Pat.dens q32_p) (y : HPat.dens q32_q) k => q32_ok y.1.1 k
/-! ### (*humpyard/decimal.reader).exponent -/
abbrev q30_ty (R : Type) : Type := Str → (Int → Bool → Str → Option R) → Option R
abbrev q30_p : List Pat := [.leaf (.ptr 0 0)]
abbrev q30_q : List HPat := [.cells [.str]]
noncomputable def q30_rr {R : Type} (fn : q30_ty R) : Pat.dens q30_p → HPat.dens q30_q → (V → Heap → Option R) → Option R := fun x y k => fn y.1.1 (fun q0 q1 q2 => k (.tuple [.int .i64 q0, .bool q1]) [.cells [.str q2]])
noncomputable def q30_E (R : Type) (q38 : q38_ty R) (q32 : q32_ty R) : Env R := fun i => match i with
  | 101 => some (false, (specBy q38_p q38_q (q38_rr q38) specNo))
  | 102 => some (false, (specBy q32_p q32_q (q32_rr q32) specNo))
  | 105 => some (true, (atoi_S R))
  | _ => none
theorem q30_EOk (R : Type) : EOk Tryz.prog (q30_E R q38 q32) := by
  intro i b sp h
  unfold q30_E at h
  split at h
  · cases h; exact ⟨(q38_S_ok R _ (specNo_ok _)), fun _ h => nomatch h⟩
  · cases h; exact ⟨(q32_S_ok R _ (specNo_ok _)), fun _ h => nomatch h⟩
  · cases h; exact ⟨(atoi_ok), fun h => nomatch h⟩
  · cases h
noncomputable def q30_T (R : Type) : Nat → Option (Hint × LSpec R) := fun i => match i with
  | _ => none
noncomputable def q30_X {R : Type} (q38 : q38_ty R) (q32 : q32_ty R) (x1 : Str) (k0 : Int → Bool → Str → Option R) : Option R :=
  q38 ([43, 45] : Str) x1 (fun y2 y3 => q32 y3 (fun y4 y5 => chk (decide (y4.length ≤ 281474976710656)) (bif atoiOk y4 then (bif (decide ((atoiVal y4) > (1000000 : Int))) then (bif (y2 == 45) then (k0 (-1000000) (!(y4 == ([] : Str))) y5) else (k0 1000000 (!(y4 == ([] : Str))) y5)) else (bif (y2 == 45) then (k0 (IntKind.i64.wrap (0 - (atoiVal y4))) (!(y4 == ([] : Str))) y5) else (k0 (atoiVal y4) (!(y4 == ([] : Str))) y5))) else (bif (!(y4 == ([] : Str))) then (bif (y2 == 45) then (k0 (-1000000) (!(y4 == ([] : Str))) y5) else (k0 1000000 (!(y4 == ([] : Str))) y5)) else (bif (decide ((atoiVal y4) > (1000000 : Int))) then (bif (y2 == 45) then (k0 (-1000000) (!(y4 == ([] : Str))) y5) else (k0 1000000 (!(y4 == ([] : Str))) y5)) else (bif (y2 == 45) then (k0 (IntKind.i64.wrap (0 - (atoiVal y4))) (!(y4 == ([] : Str))) y5) else (k0 (atoiVal y4) (!(y4 == ([] : Str))) y5)))))))
noncomputable def q30 {R : Type} : q30_ty R := fun x1 k0 => q30_X q38 q32 x1 k0
theorem q30_ok {R : Type} (q38 : q38_ty R) (q32 : q32_ty R) (x1 : Str) (k : V → Heap → Option R) : funK tt (q30_E R q38 q32) (q30_T R) false Tryz.f103 (codeOf Tryz.f103) [.ptr 0 0] [.cells [.str x1]] k =
    q30_X q38 q32 x1 (fun q0 q1 q2 => k (.tuple [.int .i64 q0, .bool q1]) [.cells [.str q2]]) := by kernel_rfl
theorem q30_loops (R : Type) : ∀ a ∈ loopsOf (codeOf Tryz.f103), LoopOk tt (q30_E R q38 q32) (q30_T R) 1 a := by
  refine loops_ok 0 (by kernel_rfl) fun i hi => ?_
  omega
theorem q30_S_ok (R : Type) (other : Yard.Spec R) (ho : Yard.Spec.Ok Tryz.prog 103 other) : Yard.Spec.Ok Tryz.prog 103 (specBy q30_p q30_q (q30_rr q30) other) :=
  specBy_ok ho (funK_sound TT mixed (q30_EOk R) (keep := false) rfl rfl rfl rfl 1 (q30_loops R)) fun (x : Pat.dens q30_p) (y : HPat.dens q30_q) k => q30_ok q38 q32 y.1.1 k
/-! ### humpyard/decimal.within[int] -/
abbrev q52_ty (R : Type) : Type := Int → Int → Int → (Bool → Option R) → Option R
abbrev q52_p : List Pat := [.leaf (.int .i64), .leaf (.int .i64), .leaf (.int .i64)]
abbrev q52_q : List HPat := []
noncomputable def q52_rr {R : Type} (fn : q52_ty R) : Pat.dens q52_p → HPat.dens q52_q → (V → Heap → Option R) → Option R := fun x y k => fn x.1 x.2.1 x.2.2.1 (fun q0 => k (.bool q0) [])
noncomputable def q52_E (R : Type) : Env R := fun i => match i with
  | _ => none
theorem q52_EOk (R : Type) : EOk Tryz.prog (q52_E R) := by
  intro i b sp h
  unfold q52_E at h
  split at h
  · cases h
noncomputable def q52_T (R : Type) : Nat → Option (Hint × LSpec R) := fun i => match i with
  | _ => none
noncomputable def q52_X {R : Type} (x1 : Int) (x2 : Int) (x3 : Int) (k0 : Bool → Option R) : Option R :=
  bif (decide (x1 ≤ x2)) then (k0 (decide (x2 ≤ x3))) else (k0 false)
noncomputable def q52 {R : Type} : q52_ty R := fun x1 x2 x3 k0 => q52_X x1 x2 x3 k0
theorem q52_ok {R : Type} (x1 : Int) (x2 : Int) (x3 : Int) (k : V → Heap → Option R) : funK tt (q52_E R) (q52_T R) false Tryz.f91 (codeOf Tryz.f91) [.int .i64 x1, .int .i64 x2, .int .i64 x3] [] k =
    q52_X x1 x2 x3 (fun q0 => k (.bool q0) []) := by kernel_rfl
theorem q52_loops (R : Type) : ∀ a ∈ loopsOf (codeOf Tryz.f91), LoopOk tt (q52_E R) (q52_T R) 0 a := by
  refine loops_ok 0 (by kernel_rfl) fun i hi => ?_
  omega
theorem q52_S_ok (R : Type) (other : Yard.Spec R) (ho : Yard.Spec.Ok Tryz.prog 91 other) : Yard.Spec.Ok Tryz.prog 91 (specBy q52_p q52_q (q52_rr q52) other) :=
  specBy_ok ho (funK_sound TT mixed (q52_EOk R) (keep := false) rfl rfl rfl rfl 0 (q52_loops R)) fun (x : Pat.dens q52_p) (y : HPat.dens q52_q) k => q52_ok x.1 x.2.1 x.2.2.1 k
/-! ### humpyard/decimal.Make -/
abbrev q65_ty (R : Type) : Type := Int → Int → (Dcm → Bool → Option R) → Option R
abbrev q65_p : List Pat := [.leaf (.int .i64), .leaf (.int .i64)]
abbrev q65_q : List HPat := []
noncomputable def q65_rr {R : Type} (fn : q65_ty R) : Pat.dens q65_p → HPat.dens q65_q → (V → Heap → Option R) → Option R := fun x y k => fn x.1 x.2.1 (fun q0 q1 => k (.tuple [.agg [.int .i64 q0.mant, .int .i64 q0.exp], .bool q1]) [])
abbrev q65_4_0_ty (R : Type) : Type := Nat → Int → Int → Dcm → (Int → Int → Dcm → Option R) → Option R
noncomputable def q65_E (R : Type) (q52 : q52_ty R) : Env R := fun i => match i with
  | 91 => some (true, (specBy q52_p q52_q (q52_rr q52) specNo))
  | _ => none
theorem q65_EOk (R : Type) : EOk Tryz.prog (q65_E R q52) := by
  intro i b sp h
  unfold q65_E at h
  split at h
  · cases h; exact ⟨(q52_S_ok R _ (specNo_ok _)), fun h => nomatch h⟩
  · cases h
noncomputable def q65_4_0_B {R : Type} (rec' : Int → Int → Dcm → Option R) (x3 : Int) (x4 : Int) (x5 : Dcm) (e0 : Int → Int → Dcm → Option R) : Option R :=
  bif ((Int.tmod x3 10) == 0) then (rec' (IntKind.i64.wrap (Int.tdiv x3 10)) (IntKind.i64.wrap (x4 + 1)) x5) else (e0 x3 x4 x5)
noncomputable def q65_4_0_L {R : Type} : q65_4_0_ty R
  | 0, _, _, _, _ => none
  | n + 1, x0', x1', x2', e0 => q65_4_0_B (fun x0' x1' x2' => q65_4_0_L n x0' x1' x2' e0) x0' x1' x2' e0
noncomputable def q65_4_0_h : Hint := { live := [0, 1, 4], own := [], rows := [], cells := [], drop := [], out := [0, 1, 4, 5] }
abbrev q65_4_0_D : Type := Int × Int × Dcm
noncomputable def q65_4_0_enc : q65_4_0_D → St := fun d => ⟨[.int .i64 d.1, .int .i64 d.2.1, .undef, .undef, .ptr 0 0, .undef, .undef, .undef, .undef, .undef, .undef, .undef, .undef, .undef, .undef, .undef, .undef, .undef, .undef, .undef, .undef, .undef, .undef, .undef, .undef, .undef, .undef, .undef, .undef, .undef], [.cells [.int .i64 d.2.2.mant, .int .i64 d.2.2.exp]]⟩
noncomputable def q65_4_0_x0 {R : Type} (K : Ex → St → Option R) (q0 : Int) (q1 : Int) (q2 : Dcm) : Option R := K (.exit 0) ⟨[.int .i64 q0, .int .i64 q1, .undef, .undef, .ptr 0 0, .undef, .undef, .undef, .undef, .undef, .undef, .undef, .undef, .undef, .undef, .undef, .undef, .undef, .undef, .undef, .undef, .undef, .undef, .undef, .undef, .undef, .undef, .undef, .undef, .undef], [.cells [.int .i64 q2.mant, .int .i64 q2.exp]]⟩
noncomputable def q65_4_0_s {R : Type} (K : Ex → St → Option R) (rc : q65_4_0_D → Option R) (d : q65_4_0_D) : Option R := q65_4_0_B (fun z0 z1 z2 => rc (z0, z1, z2)) d.1 d.2.1 d.2.2 (q65_4_0_x0 K)
noncomputable def q65_4_0_A {R : Type} (K : Ex → St → Option R) (n : Nat) (d : q65_4_0_D) : Option R := q65_4_0_L n d.1 d.2.1 d.2.2 (q65_4_0_x0 K)
abbrev q65_4_0_p : List Pat := [.leaf (.int .i64), .leaf (.int .i64), .leaf (.undef), .leaf (.undef), .leaf (.ptr 0 0), .leaf (.undef), .leaf (.undef), .leaf (.undef), .leaf (.undef), .leaf (.undef), .leaf (.undef), .leaf (.undef), .leaf (.undef), .leaf (.undef), .leaf (.undef), .leaf (.undef), .leaf (.undef), .leaf (.undef), .leaf (.undef), .leaf (.undef), .leaf (.undef), .leaf (.undef), .leaf (.undef), .leaf (.undef), .leaf (.undef), .leaf (.undef), .leaf (.undef), .leaf (.undef), .leaf (.undef), .leaf (.undef)]
abbrev q65_4_0_q : List HPat := [.cells [.int .i64, .int .i64]]
noncomputable def q65_4_0_f (x : Pat.dens q65_4_0_p) (y : HPat.dens q65_4_0_q) : Nat := (Int.natAbs x.1 + Int.natAbs x.2.1 + Dcm.fu (⟨y.1.1, y.1.2.1⟩ : Dcm) + 64)
noncomputable def q65_4_0_d (x : Pat.dens q65_4_0_p) (y : HPat.dens q65_4_0_q) : q65_4_0_D := (x.1, x.2.1, (⟨y.1.1, y.1.2.1⟩ : Dcm))
noncomputable def q65_4_0_rr {R : Type} (L : q65_4_0_ty R) : Pat.dens q65_4_0_p → HPat.dens q65_4_0_q → (Ex → St → Option R) → Option R := fun x y K => L (q65_4_0_f x y) x.1 x.2.1 (⟨y.1.1, y.1.2.1⟩ : Dcm) (q65_4_0_x0 K)
noncomputable def q65_T (R : Type) (q65_4_0_L : q65_4_0_ty R) : Nat → Option (Hint × LSpec R) := fun i => match i with
  | 4 => some (q65_4_0_h, (loopBy q65_4_0_p q65_4_0_q (q65_4_0_rr q65_4_0_L) loopNo))
  | _ => none
theorem q65_4_0_B_ok {R : Type} (q52 : q52_ty R) (q65_4_0_L : q65_4_0_ty R) (K : Ex → St → Option R) (rc : St → Option R) (d : q65_4_0_D) : roundOf tt (q65_E R q52) (q65_T R q65_4_0_L) 0 ((loopsOf (codeOf Tryz.f106)).getD 0 .skip) q65_4_0_h (q65_4_0_enc d) rc K = q65_4_0_s K (fun d => rc (q65_4_0_enc d)) d := by kernel_rfl
theorem q65_4_0_A_succ {R : Type} (K : Ex → St → Option R) (n : Nat) (d : q65_4_0_D) : q65_4_0_A K (n + 1) d = q65_4_0_s K (q65_4_0_A K n) d := by kernel_rfl
theorem q65_4_0_A_zero {R : Type} (K : Ex → St → Option R) (d : q65_4_0_D) : q65_4_0_A K 0 d = none := by kernel_rfl
theorem q65_4_0_e_ok (x : Pat.dens q65_4_0_p) (y : HPat.dens q65_4_0_q) : (⟨Pat.encL q65_4_0_p x, HPat.encL q65_4_0_q y⟩ : St) = q65_4_0_enc (q65_4_0_d x y) := by kernel_rfl
theorem q65_4_0_r_ok {R : Type} (x : Pat.dens q65_4_0_p) (y : HPat.dens q65_4_0_q) (K : Ex → St → Option R) : q65_4_0_rr (q65_4_0_L) x y K = q65_4_0_A K (q65_4_0_f x y) (q65_4_0_d x y) := by kernel_rfl
theorem q65_4_0_ok {R : Type} (other : LSpec R) (ho : LsOk tt (q65_E R q52) (q65_T R q65_4_0_L) 0 ((loopsOf (codeOf Tryz.f106)).getD 0 .skip) q65_4_0_h other) : LsOk tt (q65_E R q52) (q65_T R q65_4_0_L) 0 ((loopsOf (codeOf Tryz.f106)).getD 0 .skip) q65_4_0_h (loopBy q65_4_0_p q65_4_0_q (q65_4_0_rr (q65_4_0_L)) other) :=
  loopBy_tie (A := q65_4_0_A) ho (loop_tie q65_4_0_enc (q65_4_0_s) (q65_4_0_A) (q65_4_0_A_zero) (q65_4_0_B_ok q52 q65_4_0_L) (q65_4_0_A_succ)) q65_4_0_f q65_4_0_d q65_4_0_e_ok (q65_4_0_r_ok)
noncomputable def q65_X {R : Type} (q52 : q52_ty R) (q65_4_0_L : q65_4_0_ty R) (x1 : Int) (x2 : Int) (k0 : Dcm → Bool → Option R) : Option R :=
  bif (x1 == 0) then (k0 (⟨0, 0⟩ : Dcm) true) else (q65_4_0_L (Int.natAbs x1 + Int.natAbs (min x2 1000000) + Dcm.fu (⟨0, 0⟩ : Dcm) + 64) x1 (min x2 1000000) (⟨0, 0⟩ : Dcm) (fun y6 y7 y8 => q52 (-1000000000000000) y6 1000000000000000 (fun y9 => bif (!y9) then (k0 (⟨0, 0⟩ : Dcm) false) else (q52 (-9) y7 9 (fun y10 => bif (!y10) then (k0 (⟨0, 0⟩ : Dcm) false) else (k0 (⟨y6, y7⟩ : Dcm) true))))))
noncomputable def q65 {R : Type} : q65_ty R := fun x1 x2 k0 => q65_X q52 q65_4_0_L x1 x2 k0
theorem q65_ok {R : Type} (q52 : q52_ty R) (q65_4_0_L : q65_4_0_ty R) (x1 : Int) (x2 : Int) (k : V → Heap → Option R) : funK tt (q65_E R q52) (q65_T R q65_4_0_L) false Tryz.f106 (codeOf Tryz.f106) [.int .i64 x1, .int .i64 x2] [] k =
    q65_X q52 q65_4_0_L x1 x2 (fun q0 q1 => k (.tuple [.agg [.int .i64 q0.mant, .int .i64 q0.exp], .bool q1]) []) := by kernel_rfl
theorem q65_loops (R : Type) : ∀ a ∈ loopsOf (codeOf Tryz.f106), LoopOk tt (q65_E R q52) (q65_T R q65_4_0_L) 0 a := by
  refine loops_ok 1 (by kernel_rfl) fun i hi => ?_
  match i, hi with
  | 0, _ => exact loopOk_some (by kernel_rfl) (q65_4_0_ok _ loopNo_ok)
  | n + 1, hi => omega
theorem q65_S_ok (R : Type) (other : Yard.Spec R) (ho : Yard.Spec.Ok Tryz.prog 106 other) : Yard.Spec.Ok Tryz.prog 106 (specBy q65_p q65_q (q65_rr q65) other) :=
  specBy_ok ho (funK_sound TT mixed (q65_EOk R) (keep := false) rfl rfl rfl rfl 0 (q65_loops R)) fun (x : Pat.dens q65_p) (y : HPat.dens q65_q) k => q65_ok q52 q65_4_0_L x.1 x.2.1 k
/-! ### humpyard/decimal.Parse -/
abbrev q61_ty (R : Type) : Type := Str → (Dcm → Bool → Option R) → Option R
abbrev q61_p : List Pat := [.leaf (.str)]
abbrev q61_q : List HPat := []
noncomputable def q61_rr {R : Type} (fn : q61_ty R) : Pat.dens q61_p → HPat.dens q61_q → (V → Heap → Option R) → Option R := fun x y k => fn x.1 (fun q0 q1 => k (.tuple [.agg [.int .i64 q0.mant, .int .i64 q0.exp], .bool q1]) [])
noncomputable def q61_E (R : Type) (q65 : q65_ty R) (q38 : q38_ty R) (q32 : q32_ty R) (q30 : q30_ty R) : Env R := fun i => match i with
  | 106 => some (true, (specBy q65_p q65_q (q65_rr q65) specNo))
  | 101 => some (false, (specBy q38_p q38_q (q38_rr q38) specNo))
  | 102 => some (false, (specBy q32_p q32_q (q32_rr q32) specNo))
  | 103 => some (false, (specBy q30_p q30_q (q30_rr q30) specNo))
  | 68 => some (true, (trimL_S R))
  | 104 => some (true, (trimR_S R))
  | 105 => some (true, (atoi_S R))
  | _ => none
theorem q61_EOk (R : Type) : EOk Tryz.prog (q61_E R q65 q38 q32 q30) := by
  intro i b sp h
  unfold q61_E at h
  split at h
  · cases h; exact ⟨(q65_S_ok R _ (specNo_ok _)), fun h => nomatch h⟩
  · cases h; exact ⟨(q38_S_ok R _ (specNo_ok _)), fun _ h => nomatch h⟩
  · cases h; exact ⟨(q32_S_ok R _ (specNo_ok _)), fun _ h => nomatch h⟩
  · cases h; exact ⟨(q30_S_ok R _ (specNo_ok _)), fun _ h => nomatch h⟩
  · cases h; exact ⟨(trimL_ok), fun h => nomatch h⟩
  · cases h; exact ⟨(trimR_ok), fun h => nomatch h⟩
  · cases h; exact ⟨(atoi_ok), fun h => nomatch h⟩
  · cases h
noncomputable def q61_T (R : Type) : Nat → Option (Hint × LSpec R) := fun i => match i with
  | _ => none
noncomputable def q61_X {R : Type} (q65 : q65_ty R) (q38 : q38_ty R) (q32 : q32_ty R) (q30 : q30_ty R) (x1 : Str) (k0 : Dcm → Bool → Option R) : Option R :=
  q38 ([45] : Str) x1 (fun y2 y3 => q32 y3 (fun y4 y5 => let j32 := let j31 := fun (z11 : Str) (z12 : Int) (z13 : Str) => let j30 := fun (z19 : Int) (z20 : Str) => chk (isAsc ([48] : Str) && decide (([48] : Str).length < 4294967281)) (chk (isAsc ([48] : Str) && decide (([48] : Str).length < 4294967281)) (bif (!(z20 == ([] : Str))) then (k0 (⟨0, 0⟩ : Dcm) false) else (bif (decide (((trimR (trimL z11 ([48] : Str)) ([48] : Str)).length : Int) > (18 : Int))) then (k0 (⟨0, 0⟩ : Dcm) false) else (let j29 := bif (y2 != 0) then (q65 (IntKind.i64.wrap (0 - (atoiVal (([48] : Str) ++ (trimR (trimL z11 ([48] : Str)) ([48] : Str)))))) (IntKind.i64.wrap (z19 + (IntKind.i64.wrap (((trimL z11 ([48] : Str)).length : Int) - ((trimR (trimL z11 ([48] : Str)) ([48] : Str)).length : Int))))) (fun y25 y26 => k0 y25 y26)) else (q65 (atoiVal (([48] : Str) ++ (trimR (trimL z11 ([48] : Str)) ([48] : Str)))) (IntKind.i64.wrap (z19 + (IntKind.i64.wrap (((trimL z11 ([48] : Str)).length : Int) - ((trimR (trimL z11 ([48] : Str)) ([48] : Str)).length : Int))))) (fun y27 y28 => k0 y27 y28)); chk (decide (1 + (trimR (trimL z11 ([48] : Str)) ([48] : Str)).length ≤ 9223372036854775807)) (chk (decide ((([48] : Str) ++ (trimR (trimL z11 ([48] : Str)) ([48] : Str))).length ≤ 281474976710656)) (bif atoiOk (([48] : Str) ++ (trimR (trimL z11 ([48] : Str)) ([48] : Str))) then (j29) else (j29))))))); q38 ([101, 69] : Str) z13 (fun y14 y15 => bif (y14 != 0) then (q30 y15 (fun y16 y17 y18 => bif (!y17) then (k0 (⟨0, 0⟩ : Dcm) false) else (j30 (IntKind.i64.wrap (z12 + y16)) y18))) else (j30 z12 y15)); q38 ([46] : Str) y5 (fun y7 y8 => bif (y7 != 0) then (q32 y8 (fun y9 y10 => bif (y9 == ([] : Str)) then (k0 (⟨0, 0⟩ : Dcm) false) else (chk (decide (y4.length + y9.length ≤ 9223372036854775807)) (j31 (y4 ++ y9) (IntKind.i64.wrap (0 - (y9.length : Int))) y10)))) else (j31 y4 0 y8)); bif (decide ((x1.length : Int) > (400 : Int))) then (k0 (⟨0, 0⟩ : Dcm) false) else (bif (y4 == ([] : Str)) then (k0 (⟨0, 0⟩ : Dcm) false) else (bif (decide ((y4.length : Int) > (1 : Int))) then (chk (decide ((0 : Int) < y4.length)) (bif (((y4.getD 0 0).toNat : Int) == 48) then (k0 (⟨0, 0⟩ : Dcm) false) else (j32))) else (j32)))))
noncomputable def q61 {R : Type} : q61_ty R := fun x1 k0 => q61_X q65 q38 q32 q30 x1 k0
theorem q61_ok {R : Type} (q65 : q65_ty R) (q38 : q38_ty R) (q32 : q32_ty R) (q30 : q30_ty R) (x1 : Str) (k : V → Heap → Option R) : funK tt (q61_E R q65 q38 q32 q30) (q61_T R) false Tryz.f69 (codeOf Tryz.f69) [.str x1] [] k =
    q61_X q65 q38 q32 q30 x1 (fun q0 q1 => k (.tuple [.agg [.int .i64 q0.mant, .int .i64 q0.exp], .bool q1]) []) := by kernel_rfl
theorem q61_loops (R : Type) : ∀ a ∈ loopsOf (codeOf Tryz.f69), LoopOk tt (q61_E R q65 q38 q32 q30) (q61_T R) 0 a := by
  refine loops_ok 0 (by kernel_rfl) fun i hi => ?_
  omega
theorem q61_S_ok (R : Type) (other : Yard.Spec R) (ho : Yard.Spec.Ok Tryz.prog 69 other) : Yard.Spec.Ok Tryz.prog 69 (specBy q61_p q61_q (q61_rr q61) other) :=
  specBy_ok ho (funK_sound TT mixed (q61_EOk R) (keep := false) rfl rfl rfl rfl 0 (q61_loops R)) fun (x : Pat.dens q61_p) (y : HPat.dens q61_q) k => q61_ok q65 q38 q32 q30 x.1 k
/-! ### internal/stringslite.HasPrefix -/
abbrev q22_ty (R : Type) : Type := Str → Str → (Bool → Option R) → Option R
abbrev q22_p : List Pat := [.leaf (.str), .leaf (.str)]
abbrev q22_q : List HPat := []
noncomputable def q22_rr {R : Type} (fn : q22_ty R) : Pat.dens q22_p → HPat.dens q22_q → (V → Heap → Option R) → Option R := fun x y k => fn x.1 x.2.1 (fun q0 => k (.bool q0) [])
noncomputable def q22_E (R : Type) : Env R := fun i => match i with
  | _ => none
theorem q22_EOk (R : Type) : EOk Tryz.prog (q22_E R) := by
  intro i b sp h
  unfold q22_E at h
  split at h
  · cases h
noncomputable def q22_T (R : Type) : Nat → Option (Hint × LSpec R) := fun i => match i with
  | _ => none
noncomputable def q22_X {R : Type} (x1 : Str) (x2 : Str) (k0 : Bool → Option R) : Option R :=
  bif (decide ((x1.length : Int) ≥ (x2.length : Int))) then (chk (decide ((0 : Int) ≤ (x2.length : Int)) && decide ((x2.length : Int) ≤ x1.length)) (chk (decide ((0 : Int) ≤ (x2.length : Int))) (k0 (((x1.drop 0).take ((x2.length : Int).toNat - 0)) == x2)))) else (k0 false)
noncomputable def q22 {R : Type} : q22_ty R := fun x1 x2 k0 => q22_X x1 x2 k0
theorem q22_ok {R : Type} (x1 : Str) (x2 : Str) (k : V → Heap → Option R) : funK tt (q22_E R) (q22_T R) false Tryz.f127 (codeOf Tryz.f127) [.str x1, .str x2] [] k =
    q22_X x1 x2 (fun q0 => k (.bool q0) []) := by kernel_rfl
theorem q22_loops (R : Type) : ∀ a ∈ loopsOf (codeOf Tryz.f127), LoopOk tt (q22_E R) (q22_T R) 0 a := by
  refine loops_ok 0 (by kernel_rfl) fun i hi => ?_
  omega
theorem q22_S_ok (R : Type) (other : Yard.Spec R) (ho : Yard.Spec.Ok Tryz.prog 127 other) : Yard.Spec.Ok Tryz.prog 127 (specBy q22_p q22_q (q22_rr q22) other) :=
  specBy_ok ho (funK_sound TT mixed (q22_EOk R) (keep := false) rfl rfl rfl rfl 0 (q22_loops R)) fun (x : Pat.dens q22_p) (y : HPat.dens q22_q) k => q22_ok x.1 x.2.1 k
/-! ### internal/stringslite.CutPrefix -/
abbrev q27_ty (R : Type) : Type := Str → Str → (Str → Bool → Option R) → Option R
abbrev q27_p : List Pat := [.leaf (.str), .leaf (.str)]
abbrev q27_q : List HPat := []
noncomputable def q27_rr {R : Type} (fn : q27_ty R) : Pat.dens q27_p → HPat.dens q27_q → (V → Heap → Option R) → Option R := fun x y k => fn x.1 x.2.1 (fun q0 q1 => k (.tuple [.str q0, .bool q1]) [])
noncomputable def q27_E (R : Type) (q22 : q22_ty R) : Env R := fun i => match i with
  | 127 => some (true, (specBy q22_p q22_q (q22_rr q22) specNo))
  | _ => none
theorem q27_EOk (R : Type) : EOk Tryz.prog (q27_E R q22) := by
  intro i b sp h
  unfold q27_E at h
  split at h
  · cases h; exact ⟨(q22_S_ok R _ (specNo_ok _)), fun h => nomatch h⟩
  · cases h
noncomputable def q27_T (R : Type) : Nat → Option (Hint × LSpec R) := fun i => match i with
  | _ => none
noncomputable def q27_X {R : Type} (q22 : q22_ty R) (x1 : Str) (x2 : Str) (k0 : Str → Bool → Option R) : Option R :=
  q22 x1 x2 (fun y3 => bif (!y3) then (k0 x1 false) else (chk (decide ((0 : Int) ≤ (x1.length : Int)) && decide ((x1.length : Int) ≤ x1.length)) (chk (decide ((0 : Int) ≤ (x2.length : Int)) && decide ((x2.length : Int) ≤ (x1.length : Int))) (k0 ((x1.drop (x2.length : Int).toNat).take ((x1.length : Int).toNat - (x2.length : Int).toNat)) true))))
noncomputable def q27 {R : Type} : q27_ty R := fun x1 x2 k0 => q27_X q22 x1 x2 k0
theorem q27_ok {R : Type} (q22 : q22_ty R) (x1 : Str) (x2 : Str) (k : V → Heap → Option R) : funK tt (q27_E R q22) (q27_T R) false Tryz.f156 (codeOf Tryz.f156) [.str x1, .str x2] [] k =
    q27_X q22 x1 x2 (fun q0 q1 => k (.tuple [.str q0, .bool q1]) []) := by kernel_rfl
theorem q27_loops (R : Type) : ∀ a ∈ loopsOf (codeOf Tryz.f156), LoopOk tt (q27_E R q22) (q27_T R) 0 a := by
  refine loops_ok 0 (by kernel_rfl) fun i hi => ?_
  omega
theorem q27_S_ok (R : Type) (other : Yard.Spec R) (ho : Yard.Spec.Ok Tryz.prog 156 other) : Yard.Spec.Ok Tryz.prog 156 (specBy q27_p q27_q (q27_rr q27) other) :=
  specBy_ok ho (funK_sound TT mixed (q27_EOk R) (keep := false) rfl rfl rfl rfl 0 (q27_loops R)) fun (x : Pat.dens q27_p) (y : HPat.dens q27_q) k => q27_ok q22 x.1 x.2.1 k
end Go.Proofs.YtmlkkgfenfdndaaGreatDoor
/-
  Functions of the program as pure Lean functions, and the ties; printed by wip/tools/emit.py.
-/
set_option maxRecDepth 100000
namespace Go.Proofs.YtmlkkgfenfdndaaGreatDoor
open Go Go.Yard
/-! ### strings.CutPrefix -/
abbrev q55_ty (R : Type) : Type := Str → Str → (Str → Bool → Option R) → Option R
abbrev q55_p : List Pat := [.leaf (.str), .leaf (.str)]
abbrev q55_q : List HPat := []
noncomputable def q55_rr {R : Type} (fn : q55_ty R) : Pat.dens q55_p → HPat.dens q55_q → (V → Heap → Option R) → Option R := fun x y k => fn x.1 x.2.1 (fun q0 q1 => k (.tuple [.str q0, .bool q1]) [])
noncomputable def q55_E (R : Type) (q27 : q27_ty R) : Env R := fun i => match i with
  | 156 => some (true, (specBy q27_p q27_q (q27_rr q27) specNo))
  | _ => none
theorem q55_EOk (R : Type) : EOk Tryz.prog (q55_E R q27) := by
  intro i b sp h
  unfold q55_E at h
  split at h
  · cases h; exact ⟨(q27_S_ok R _ (specNo_ok _)), fun h => nomatch h⟩
  · cases h
noncomputable def q55_T (R : Type) : Nat → Option (Hint × LSpec R) := fun i => match i with
  | _ => none
noncomputable def q55_X {R : Type} (q27 : q27_ty R) (x1 : Str) (x2 : Str) (k0 : Str → Bool → Option R) : Option R :=
  q27 x1 x2 (fun y3 y4 => k0 y3 y4)
noncomputable def q55 {R : Type} : q55_ty R := fun x1 x2 k0 => q55_X q27 x1 x2 k0
theorem q55_ok {R : Type} (q27 : q27_ty R) (x1 : Str) (x2 : Str) (k : V → Heap → Option R) : funK tt (q55_E R q27) (q55_T R) false Tryz.f137 (codeOf Tryz.f137) [.str x1, .str x2] [] k =
    q55_X q27 x1 x2 (fun q0 q1 => k (.tuple [.str q0, .bool q1]) []) := by kernel_rfl
theorem q55_loops (R : Type) : ∀ a ∈ loopsOf (codeOf Tryz.f137), LoopOk tt (q55_E R q27) (q55_T R) 0 a := by
  refine loops_ok 0 (by kernel_rfl) fun i hi => ?_
  omega
theorem q55_S_ok (R : Type) (other : Yard.Spec R) (ho : Yard.Spec.Ok Tryz.prog 137 other) : Yard.Spec.Ok Tryz.prog 137 (specBy q55_p q55_q (q55_rr q55) other) :=
  specBy_ok ho (funK_sound TT mixed (q55_EOk R) (keep := false) rfl rfl rfl rfl 0 (q55_loops R)) fun (x : Pat.dens q55_p) (y : HPat.dens q55_q) k => q55_ok q27 x.1 x.2.1 k
/-! ### (*humpyard/quote.reader).skip -/
abbrev q43_ty (R : Type) : Type := Str → Str → (Bool → Str → Option R) → Option R
abbrev q43_p : List Pat := [.leaf (.ptr 0 0), .leaf (.str)]
abbrev q43_q : List HPat := [.cells [.str]]
noncomputable def q43_rr {R : Type} (fn : q43_ty R) : Pat.dens q43_p → HPat.dens q43_q → (V → Heap → Option R) → Option R := fun x y k => fn x.2.1 y.1.1 (fun q0 q1 => k (.bool q0) [.cells [.str q1]])
noncomputable def q43_E (R : Type) (q55 : q55_ty R) : Env R := fun i => match i with
  | 137 => some (true, (specBy q55_p q55_q (q55_rr q55) specNo))
  | _ => none
theorem q43_EOk (R : Type) : EOk Tryz.prog (q43_E R q55) := by
  intro i b sp h
  unfold q43_E at h
  split at h
  · cases h; exact ⟨(q55_S_ok R _ (specNo_ok _)), fun h => nomatch h⟩
  · cases h
noncomputable def q43_T (R : Type) : Nat → Option (Hint × LSpec R) := fun i => match i with
  | _ => none
noncomputable def q43_X {R : Type} (q55 : q55_ty R) (x1 : Str) (x2 : Str) (k0 : Bool → Str → Option R) : Option R :=
  q55 x2 x1 (fun y3 y4 => k0 y4 y3)
noncomputable def q43 {R : Type} : q43_ty R := fun x1 x2 k0 => q43_X q55 x1 x2 k0
theorem q43_ok {R : Type} (q55 : q55_ty R) (x1 : Str) (x2 : Str) (k : V → Heap → Option R) : funK tt (q43_E R q55) (q43_T R) false Tryz.f107 (codeOf Tryz.f107) [.ptr 0 0, .str x1] [.cells [.str x2]] k =
    q43_X q55 x1 x2 (fun q0 q1 => k (.bool q0) [.cells [.str q1]]) := by kernel_rfl
theorem q43_loops (R : Type) : ∀ a ∈ loopsOf (codeOf Tryz.f107), LoopOk tt (q43_E R q55) (q43_T R) 1 a := by
  refine loops_ok 0 (by kernel_rfl) fun i hi => ?_
  omega
theorem q43_S_ok (R : Type) (other : Yard.Spec R) (ho : Yard.Spec.Ok Tryz.prog 107 other) : Yard.Spec.Ok Tryz.prog 107 (specBy q43_p q43_q (q43_rr q43) other) :=
  specBy_ok ho (funK_sound TT mixed (q43_EOk R) (keep := false) rfl rfl rfl rfl 1 (q43_loops R)) fun (x : Pat.dens q43_p) (y : HPat.dens q43_q) k => q43_ok q55 x.2.1 y.1.1 k
/-! ### internal/strconv.lower -/
abbrev q40_ty (R : Type) : Type := Int → (Int → Option R) → Option R
abbrev q40_p : List Pat := [.leaf (.int .u8)]
abbrev q40_q : List HPat := []
noncomputable def q40_rr {R : Type} (fn : q40_ty R) : Pat.dens q40_p → HPat.dens q40_q → (V → Heap → Option R) → Option R := fun x y k => fn x.1 (fun q0 => k (.int .u8 q0) [])
noncomputable def q40_E (R : Type) : Env R := fun i => match i with
  | _ => none
theorem q40_EOk (R : Type) : EOk Tryz.prog (q40_E R) := by
  intro i b sp h
  unfold q40_E at h
  split at h
  · cases h
noncomputable def q40_T (R : Type) : Nat → Option (Hint × LSpec R) := fun i => match i with
  | _ => none
noncomputable def q40_X {R : Type} (x1 : Int) (k0 : Int → Option R) : Option R :=
  k0 (IntKind.u8.wrap ((BitVec.ofInt IntKind.u8.bits x1 ||| BitVec.ofInt IntKind.u8.bits 32).toNat : Int))
noncomputable def q40 {R : Type} : q40_ty R := fun x1 k0 => q40_X x1 k0
theorem q40_ok {R : Type} (x1 : Int) (k : V → Heap → Option R) : funK tt (q40_E R) (q40_T R) false Tryz.f176 (codeOf Tryz.f176) [.int .u8 x1] [] k =
    q40_X x1 (fun q0 => k (.int .u8 q0) []) := by kernel_rfl
theorem q40_loops (R : Type) : ∀ a ∈ loopsOf (codeOf Tryz.f176), LoopOk tt (q40_E R) (q40_T R) 0 a := by
  refine loops_ok 0 (by kernel_rfl) fun i hi => ?_
  omega
theorem q40_S_ok (R : Type) (other : Yard.Spec R) (ho : Yard.Spec.Ok Tryz.prog 176 other) : Yard.Spec.Ok Tryz.prog 176 (specBy q40_p q40_q (q40_rr q40) other) :=
  specBy_ok ho (funK_sound TT mixed (q40_EOk R) (keep := false) rfl rfl rfl rfl 0 (q40_loops R)) fun (x : Pat.dens q40_p) (y : HPat.dens q40_q) k => q40_ok x.1 k
/-! ### internal/strconv.underscoreOK -/
abbrev q28_ty (R : Type) : Type := Str → (Bool → Option R) → Option R
abbrev q28_p : List Pat := [.leaf (.str)]
abbrev q28_q : List HPat := []
noncomputable def q28_rr {R : Type} (fn : q28_ty R) : Pat.dens q28_p → HPat.dens q28_q → (V → Heap → Option R) → Option R := fun x y k => fn x.1 (fun q0 => k (.bool q0) [])
abbrev q28_10_0_ty (R : Type) : Type := Nat → Str → Int → Int → Bool → (Int → Option R) → (Bool → Int → Option R) → Option R
noncomputable def q28_E (R : Type) (q40 : q40_ty R) : Env R := fun i => match i with
  | 176 => some (true, (specBy q40_p q40_q (q40_rr q40) specNo))
  | _ => none
theorem q28_EOk (R : Type) : EOk Tryz.prog (q28_E R q40) := by
  intro i b sp h
  unfold q28_E at h
  split at h
  · cases h; exact ⟨(q40_S_ok R _ (specNo_ok _)), fun h => nomatch h⟩
  · cases h
noncomputable def q28_10_0_B {R : Type} (q40 : q40_ty R) (rec' : Str → Int → Int → Bool → Option R) (x15 : Str) (x16 : Int) (x17 : Int) (x18 : Bool) (e0 : Int → Option R) (e1 : Bool → Int → Option R) : Option R :=
  bif (decide (x17 < (x15.length : Int))) then (chk (decide ((0 : Int) ≤ x17) && decide (x17 < x15.length)) (bif (decide ((48 : Int) ≤ ((x15.getD x17.toNat 0).toNat : Int))) then (chk (decide ((0 : Int) ≤ x17) && decide (x17 < x15.length)) (bif (decide (((x15.getD x17.toNat 0).toNat : Int) ≤ (57 : Int))) then (rec' x15 48 (IntKind.i64.wrap (x17 + 1)) x18) else (bif x18 then (chk (decide ((0 : Int) ≤ x17) && decide (x17 < x15.length)) (q40 ((x15.getD x17.toNat 0).toNat : Int) (fun y19 => bif (decide ((97 : Int) ≤ y19)) then (chk (decide ((0 : Int) ≤ x17) && decide (x17 < x15.length)) (q40 ((x15.getD x17.toNat 0).toNat : Int) (fun y20 => bif (decide (y20 ≤ (102 : Int))) then (rec' x15 48 (IntKind.i64.wrap (x17 + 1)) x18) else (chk (decide ((0 : Int) ≤ x17) && decide (x17 < x15.length)) (bif (((x15.getD x17.toNat 0).toNat : Int) == 95) then (bif (x16 != 48) then (e1 false x16) else (rec' x15 95 (IntKind.i64.wrap (x17 + 1)) x18)) else (bif (x16 == 95) then (e1 false x16) else (rec' x15 33 (IntKind.i64.wrap (x17 + 1)) x18))))))) else (chk (decide ((0 : Int) ≤ x17) && decide (x17 < x15.length)) (bif (((x15.getD x17.toNat 0).toNat : Int) == 95) then (bif (x16 != 48) then (e1 false x16) else (rec' x15 95 (IntKind.i64.wrap (x17 + 1)) x18)) else (bif (x16 == 95) then (e1 false x16) else (rec' x15 33 (IntKind.i64.wrap (x17 + 1)) x18))))))) else (chk (decide ((0 : Int) ≤ x17) && decide (x17 < x15.length)) (bif (((x15.getD x17.toNat 0).toNat : Int) == 95) then (bif (x16 != 48) then (e1 false x16) else (rec' x15 95 (IntKind.i64.wrap (x17 + 1)) x18)) else (bif (x16 == 95) then (e1 false x16) else (rec' x15 33 (IntKind.i64.wrap (x17 + 1)) x18))))))) else (bif x18 then (chk (decide ((0 : Int) ≤ x17) && decide (x17 < x15.length)) (q40 ((x15.getD x17.toNat 0).toNat : Int) (fun y21 => bif (decide ((97 : Int) ≤ y21)) then (chk (decide ((0 : Int) ≤ x17) && decide (x17 < x15.length)) (q40 ((x15.getD x17.toNat 0).toNat : Int) (fun y22 => bif (decide (y22 ≤ (102 : Int))) then (rec' x15 48 (IntKind.i64.wrap (x17 + 1)) x18) else (chk (decide ((0 : Int) ≤ x17) && decide (x17 < x15.length)) (bif (((x15.getD x17.toNat 0).toNat : Int) == 95) then (bif (x16 != 48) then (e1 false x16) else (rec' x15 95 (IntKind.i64.wrap (x17 + 1)) x18)) else (bif (x16 == 95) then (e1 false x16) else (rec' x15 33 (IntKind.i64.wrap (x17 + 1)) x18))))))) else (chk (decide ((0 : Int) ≤ x17) && decide (x17 < x15.length)) (bif (((x15.getD x17.toNat 0).toNat : Int) == 95) then (bif (x16 != 48) then (e1 false x16) else (rec' x15 95 (IntKind.i64.wrap (x17 + 1)) x18)) else (bif (x16 == 95) then (e1 false x16) else (rec' x15 33 (IntKind.i64.wrap (x17 + 1)) x18))))))) else (chk (decide ((0 : Int) ≤ x17) && decide (x17 < x15.length)) (bif (((x15.getD x17.toNat 0).toNat : Int) == 95) then (bif (x16 != 48) then (e1 false x16) else (rec' x15 95 (IntKind.i64.wrap (x17 + 1)) x18)) else (bif (x16 == 95) then (e1 false x16) else (rec' x15 33 (IntKind.i64.wrap (x17 + 1)) x18))))))) else (e0 x16)
noncomputable def q28_10_0_L {R : Type} : q28_10_0_ty R
  | 0, _, _, _, _, _, _ => none
  | n + 1, x0', x1', x2', x3', e0, e1 => q28_10_0_B q40 (fun x0' x1' x2' x3' => q28_10_0_L n x0' x1' x2' x3' e0 e1) x0' x1' x2' x3' e0 e1
noncomputable def q28_10_0_h : Hint := { live := [0, 3, 4, 5], own := [], rows := [], cells := [], drop := [], out := [2, 3] }
abbrev q28_10_0_D : Type := Str × Int × Int × Bool
noncomputable def q28_10_0_enc : q28_10_0_D → St := fun d => ⟨[.str d.1, .undef, .undef, .int .i32 d.2.1, .int .i64 d.2.2.1, .bool d.2.2.2, .undef, .undef, .undef, .undef, .undef, .undef, .undef, .undef, .undef, .undef, .undef, .undef, .undef, .undef, .undef, .undef, .undef, .undef, .undef, .undef, .undef, .undef, .undef, .undef, .undef, .undef, .undef, .undef, .undef, .undef, .undef, .undef, .undef, .undef, .undef, .undef, .undef, .undef, .undef, .undef, .undef, .undef, .undef, .undef, .undef, .undef, .undef, .undef, .undef, .undef, .undef, .undef, .undef, .undef, .undef, .undef, .undef, .undef, .undef, .undef, .undef, .undef, .undef, .undef, .undef, .undef, .undef, .undef, .undef, .undef, .undef, .undef, .undef, .undef, .undef, .undef, .undef, .undef, .undef, .undef, .undef, .undef, .undef, .undef, .undef, .undef, .undef, .undef], []⟩
noncomputable def q28_10_0_x0 {R : Type} (K : Ex → St → Option R) (q0 : Int) : Option R := K (.exit 0) ⟨[.undef, .undef, .undef, .int .i32 q0, .undef, .undef, .undef, .undef, .undef, .undef, .undef, .undef, .undef, .undef, .undef, .undef, .undef, .undef, .undef, .undef, .undef, .undef, .undef, .undef, .undef, .undef, .undef, .undef, .undef, .undef, .undef, .undef, .undef, .undef, .undef, .undef, .undef, .undef, .undef, .undef, .undef, .undef, .undef, .undef, .undef, .undef, .undef, .undef, .undef, .undef, .undef, .undef, .undef, .undef, .undef, .undef, .undef, .undef, .undef, .undef, .undef, .undef, .undef, .undef, .undef, .undef, .undef, .undef, .undef, .undef, .undef, .undef, .undef, .undef, .undef, .undef, .undef, .undef, .undef, .undef, .undef, .undef, .undef, .undef, .undef, .undef, .undef, .undef, .undef, .undef, .undef, .undef, .undef, .undef], []⟩
noncomputable def q28_10_0_x1 {R : Type} (K : Ex → St → Option R) (q0 : Bool) (q1 : Int) : Option R := K (.ret) ⟨[.undef, .undef, .bool q0, .int .i32 q1, .undef, .undef, .undef, .undef, .undef, .undef, .undef, .undef, .undef, .undef, .undef, .undef, .undef, .undef, .undef, .undef, .undef, .undef, .undef, .undef, .undef, .undef, .undef, .undef, .undef, .undef, .undef, .undef, .undef, .undef, .undef, .undef, .undef, .undef, .undef, .undef, .undef, .undef, .undef, .undef, .undef, .undef, .undef, .undef, .undef, .undef, .undef, .undef, .undef, .undef, .undef, .undef, .undef, .undef, .undef, .undef, .undef, .undef, .undef, .undef, .undef, .undef, .undef, .undef, .undef, .undef, .undef, .undef, .undef, .undef, .undef, .undef, .undef, .undef, .undef, .undef, .undef, .undef, .undef, .undef, .undef, .undef, .undef, .undef, .undef, .undef, .undef, .undef, .undef, .undef], []⟩
noncomputable def q28_10_0_s {R : Type} (q40 : q40_ty R) (K : Ex → St → Option R) (rc : q28_10_0_D → Option R) (d : q28_10_0_D) : Option R := q28_10_0_B q40 (fun z0 z1 z2 z3 => rc (z0, z1, z2, z3)) d.1 d.2.1 d.2.2.1 d.2.2.2 (q28_10_0_x0 K) (q28_10_0_x1 K)
noncomputable def q28_10_0_A {R : Type} (K : Ex → St → Option R) (n : Nat) (d : q28_10_0_D) : Option R := q28_10_0_L n d.1 d.2.1 d.2.2.1 d.2.2.2 (q28_10_0_x0 K) (q28_10_0_x1 K)
abbrev q28_10_0_p : List Pat := [.leaf (.str), .leaf (.undef), .leaf (.undef), .leaf (.int .i32), .leaf (.int .i64), .leaf (.bool), .leaf (.undef), .leaf (.undef), .leaf (.undef), .leaf (.undef), .leaf (.undef), .leaf (.undef), .leaf (.undef), .leaf (.undef), .leaf (.undef), .leaf (.undef), .leaf (.undef), .leaf (.undef), .leaf (.undef), .leaf (.undef), .leaf (.undef), .leaf (.undef), .leaf (.undef), .leaf (.undef), .leaf (.undef), .leaf (.undef), .leaf (.undef), .leaf (.undef), .leaf (.undef), .leaf (.undef), .leaf (.undef), .leaf (.undef), .leaf (.undef), .leaf (.undef), .leaf (.undef), .leaf (.undef), .leaf (.undef), .leaf (.undef), .leaf (.undef), .leaf (.undef), .leaf (.undef), .leaf (.undef), .leaf (.undef), .leaf (.undef), .leaf (.undef), .leaf (.undef), .leaf (.undef), .leaf (.undef), .leaf (.undef), .leaf (.undef), .leaf (.undef), .leaf (.undef), .leaf (.undef), .leaf (.undef), .leaf (.undef), .leaf (.undef), .leaf (.undef), .leaf (.undef), .leaf (.undef), .leaf (.undef), .leaf (.undef), .leaf (.undef), .leaf (.undef), .leaf (.undef), .leaf (.undef), .leaf (.undef), .leaf (.undef), .leaf (.undef), .leaf (.undef), .leaf (.undef), .leaf (.undef), .leaf (.undef), .leaf (.undef), .leaf (.undef), .leaf (.undef), .leaf (.undef), .leaf (.undef), .leaf (.undef), .leaf (.undef), .leaf (.undef), .leaf (.undef), .leaf (.undef), .leaf (.undef), .leaf (.undef), .leaf (.undef), .leaf (.undef), .leaf (.undef), .leaf (.undef), .leaf (.undef), .leaf (.undef), .leaf (.undef), .leaf (.undef), .leaf (.undef), .leaf (.undef)]
abbrev q28_10_0_q : List HPat := []
noncomputable def q28_10_0_f (x : Pat.dens q28_10_0_p) (y : HPat.dens q28_10_0_q) : Nat := (List.length x.1 + Int.natAbs x.2.2.2.1 + Int.natAbs x.2.2.2.2.1 + 64)
noncomputable def q28_10_0_d (x : Pat.dens q28_10_0_p) (y : HPat.dens q28_10_0_q) : q28_10_0_D := (x.1, x.2.2.2.1, x.2.2.2.2.1, x.2.2.2.2.2.1)
noncomputable def q28_10_0_rr {R : Type} (L : q28_10_0_ty R) : Pat.dens q28_10_0_p → HPat.dens q28_10_0_q → (Ex → St → Option R) → Option R := fun x y K => L (q28_10_0_f x y) x.1 x.2.2.2.1 x.2.2.2.2.1 x.2.2.2.2.2.1 (q28_10_0_x0 K) (q28_10_0_x1 K)
noncomputable def q28_T (R : Type) (q28_10_0_L : q28_10_0_ty R) : Nat → Option (Hint × LSpec R) := fun i => match i with
  | 10 => some (q28_10_0_h, (loopBy q28_10_0_p q28_10_0_q (q28_10_0_rr q28_10_0_L) loopNo))
  | _ => none
theorem q28_10_0_B_ok {R : Type} (q40 : q40_ty R) (q28_10_0_L : q28_10_0_ty R) (K : Ex → St → Option R) (rc : St → Option R) (d : q28_10_0_D) : roundOf tt (q28_E R q40) (q28_T R q28_10_0_L) 0 ((loopsOf (codeOf Tryz.f177)).getD 0 .skip) q28_10_0_h (q28_10_0_enc d) rc K = q28_10_0_s q40 K (fun d => rc (q28_10_0_enc d)) d := by kernel_rfl
theorem q28_10_0_A_succ {R : Type} (K : Ex → St → Option R) (n : Nat) (d : q28_10_0_D) : q28_10_0_A K (n + 1) d = q28_10_0_s q40 K (q28_10_0_A K n) d := by kernel_rfl
theorem q28_10_0_A_zero {R : Type} (K : Ex → St → Option R) (d : q28_10_0_D) : q28_10_0_A K 0 d = none := by kernel_rfl
theorem q28_10_0_e_ok (x : Pat.dens q28_10_0_p) (y : HPat.dens q28_10_0_q) : (⟨Pat.encL q28_10_0_p x, HPat.encL q28_10_0_q y⟩ : St) = q28_10_0_enc (q28_10_0_d x y) := by kernel_rfl
theorem q28_10_0_r_ok {R : Type} (x : Pat.dens q28_10_0_p) (y : HPat.dens q28_10_0_q) (K : Ex → St → Option R) : q28_10_0_rr (q28_10_0_L) x y K = q28_10_0_A K (q28_10_0_f x y) (q28_10_0_d x y) := by kernel_rfl
theorem q28_10_0_ok {R : Type} (other : LSpec R) (ho : LsOk tt (q28_E R q40) (q28_T R q28_10_0_L) 0 ((loopsOf (codeOf Tryz.f177)).getD 0 .skip) q28_10_0_h other) : LsOk tt (q28_E R q40) (q28_T R q28_10_0_L) 0 ((loopsOf (codeOf Tryz.f177)).getD 0 .skip) q28_10_0_h (loopBy q28_10_0_p q28_10_0_q (q28_10_0_rr (q28_10_0_L)) other) :=
  loopBy_tie (A := q28_10_0_A) ho (loop_tie q28_10_0_enc (q28_10_0_s q40) (q28_10_0_A) (q28_10_0_A_zero) (q28_10_0_B_ok q40 q28_10_0_L) (q28_10_0_A_succ)) q28_10_0_f q28_10_0_d q28_10_0_e_ok (q28_10_0_r_ok)
noncomputable def q28_X {R : Type} (q40 : q40_ty R) (q28_10_0_L : q28_10_0_ty R) (x1 : Str) (k0 : Bool → Option R) : Option R :=
  let j46 := fun (z3 : Str) => bif (decide ((z3.length : Int) ≥ (2 : Int))) then (chk (decide ((0 : Int) < z3.length)) (bif (((z3.getD 0 0).toNat : Int) == 48) then (chk (decide ((1 : Int) < z3.length)) (q40 ((z3.getD 1 0).toNat : Int) (fun y4 => bif (y4 == 98) then (chk (decide ((1 : Int) < z3.length)) (q40 ((z3.getD 1 0).toNat : Int) (fun y9 => q28_10_0_L (List.length z3 + Int.natAbs 48 + Int.natAbs 2 + 64) z3 48 2 (y9 == 120) (fun y28 => k0 (y28 != 95)) (fun y29 y30 => k0 y29)))) else (chk (decide ((1 : Int) < z3.length)) (q40 ((z3.getD 1 0).toNat : Int) (fun y5 => bif (y5 == 111) then (chk (decide ((1 : Int) < z3.length)) (q40 ((z3.getD 1 0).toNat : Int) (fun y10 => q28_10_0_L (List.length z3 + Int.natAbs 48 + Int.natAbs 2 + 64) z3 48 2 (y10 == 120) (fun y31 => k0 (y31 != 95)) (fun y32 y33 => k0 y32)))) else (chk (decide ((1 : Int) < z3.length)) (q40 ((z3.getD 1 0).toNat : Int) (fun y6 => bif (y6 == 120) then (chk (decide ((1 : Int) < z3.length)) (q40 ((z3.getD 1 0).toNat : Int) (fun y11 => q28_10_0_L (List.length z3 + Int.natAbs 48 + Int.natAbs 2 + 64) z3 48 2 (y11 == 120) (fun y34 => k0 (y34 != 95)) (fun y35 y36 => k0 y35)))) else (q28_10_0_L (List.length z3 + Int.natAbs 94 + Int.natAbs 0 + 64) z3 94 0 false (fun y37 => k0 (y37 != 95)) (fun y38 y39 => k0 y38))))))))))) else (q28_10_0_L (List.length z3 + Int.natAbs 94 + Int.natAbs 0 + 64) z3 94 0 false (fun y40 => k0 (y40 != 95)) (fun y41 y42 => k0 y41)))) else (q28_10_0_L (List.length z3 + Int.natAbs 94 + Int.natAbs 0 + 64) z3 94 0 false (fun y43 => k0 (y43 != 95)) (fun y44 y45 => k0 y44)); bif (decide ((x1.length : Int) ≥ (1 : Int))) then (chk (decide ((0 : Int) < x1.length)) (bif (((x1.getD 0 0).toNat : Int) == 45) then (chk (decide ((0 : Int) ≤ (x1.length : Int)) && decide ((x1.length : Int) ≤ x1.length)) (chk (decide ((1 : Int) ≤ (x1.length : Int))) (j46 ((x1.drop 1).take ((x1.length : Int).toNat - 1))))) else (chk (decide ((0 : Int) < x1.length)) (bif (((x1.getD 0 0).toNat : Int) == 43) then (chk (decide ((0 : Int) ≤ (x1.length : Int)) && decide ((x1.length : Int) ≤ x1.length)) (chk (decide ((1 : Int) ≤ (x1.length : Int))) (j46 ((x1.drop 1).take ((x1.length : Int).toNat - 1))))) else (j46 x1))))) else (j46 x1)
noncomputable def q28 {R : Type} : q28_ty R := fun x1 k0 => q28_X q40 q28_10_0_L x1 k0
theorem q28_ok {R : Type} (q40 : q40_ty R) (q28_10_0_L : q28_10_0_ty R) (x1 : Str) (k : V → Heap → Option R) : funK tt (q28_E R q40) (q28_T R q28_10_0_L) false Tryz.f177 (codeOf Tryz.f177) [.str x1] [] k =
    q28_X q40 q28_10_0_L x1 (fun q0 => k (.bool q0) []) := by kernel_rfl
theorem q28_loops (R : Type) : ∀ a ∈ loopsOf (codeOf Tryz.f177), LoopOk tt (q28_E R q40) (q28_T R q28_10_0_L) 0 a := by
  refine loops_ok 1 (by kernel_rfl) fun i hi => ?_
  match i, hi with
  | 0, _ => exact loopOk_some (by kernel_rfl) (q28_10_0_ok _ loopNo_ok)
  | n + 1, hi => omega
theorem q28_S_ok (R : Type) (other : Yard.Spec R) (ho : Yard.Spec.Ok Tryz.prog 177 other) : Yard.Spec.Ok Tryz.prog 177 (specBy q28_p q28_q (q28_rr q28) other) :=
  specBy_ok ho (funK_sound TT mixed (q28_EOk R) (keep := false) rfl rfl rfl rfl 0 (q28_loops R)) fun (x : Pat.dens q28_p) (y : HPat.dens q28_q) k => q28_ok q40 q28_10_0_L x.1 k
end Go.Proofs.YtmlkkgfenfdndaaGreatDoor
/-
  Functions of the program as pure Lean functions, and the ties; printed by wip/tools/emit.py.
-/
set_option maxRecDepth 100000
namespace Go.Proofs.YtmlkkgfenfdndaaGreatDoor
open Go Go.Yard
/-! ### internal/strconv.ParseUint -/
abbrev q33_ty (R : Type) : Type := Str → Int → Int → (Int → Option R) → (Int → Option R) → (Int → Option R) → (Int → Option R) → (Int → Option R) → Option R
abbrev q33_p : List Pat := [.leaf (.str), .leaf (.int .i64), .leaf (.int .i64)]
abbrev q33_q : List HPat := []
noncomputable def q33_rr {R : Type} (fn : q33_ty R) : Pat.dens q33_p → HPat.dens q33_q → (V → Heap → Option R) → Option R := fun x y k => fn x.1 x.2.1 x.2.2.1 (fun q0 => k (.tuple [.int .u64 q0, .ifi 184 .i64 2]) []) (fun q0 => k (.tuple [.int .u64 q0, .ifi 184 .i64 3]) []) (fun q0 => k (.tuple [.int .u64 q0, .ifi 184 .i64 4]) []) (fun q0 => k (.tuple [.int .u64 q0, .ifi 184 .i64 1]) []) (fun q0 => k (.tuple [.int .u64 q0, .niliface]) [])
abbrev q33_36_0_ty (R : Type) : Type := Nat → Int → Bool → Str → Int → Int → Bool → Int → Nat → Int → Int → (List Int) → (Str → Bool → Int → Option R) → (Int → Str → Bool → Int → Option R) → (Int → Str → Bool → Int → Option R) → (Int → Str → Bool → Option R) → Option R
noncomputable def q33_E (R : Type) (q40 : q40_ty R) (q28 : q28_ty R) : Env R := fun i => match i with
  | 176 => some (true, (specBy q40_p q40_q (q40_rr q40) specNo))
  | 177 => some (true, (specBy q28_p q28_q (q28_rr q28) specNo))
  | _ => none
theorem q33_EOk (R : Type) : EOk Tryz.prog (q33_E R q40 q28) := by
  intro i b sp h
  unfold q33_E at h
  split at h
  · cases h; exact ⟨(q40_S_ok R _ (specNo_ok _)), fun h => nomatch h⟩
  · cases h; exact ⟨(q28_S_ok R _ (specNo_ok _)), fun h => nomatch h⟩
  · cases h
noncomputable def q33_36_0_B {R : Type} (q40 : q40_ty R) (rec' : Int → Bool → Str → Int → Int → Bool → Int → Nat → Int → Int → (List Int) → Option R) (x20 : Int) (x21 : Bool) (x22 : Str) (x23 : Int) (x24 : Int) (x25 : Bool) (x26 : Int) (x27 : Nat) (x28 : Int) (x29 : Int) (x30 : List Int) (e0 : Str → Bool → Int → Option R) (e1 : Int → Str → Bool → Int → Option R) (e2 : Int → Str → Bool → Int → Option R) (e3 : Int → Str → Bool → Option R) : Option R :=
  bif (decide (x29 < x28)) then (chk (decide ((0 : Int) ≤ x29) && decide (x29 < x27)) (chk (decide (x29.toNat < x30.length)) (let j42 := fun (z40 : Int) => bif (decide (z40 ≥ (IntKind.u8.wrap x20))) then (e1 0 x22 x25 x26) else (bif (decide (x26 ≥ x23)) then (e2 x24 x22 x25 x26) else (bif (decide ((IntKind.u64.wrap ((IntKind.u64.wrap (x26 * (IntKind.u64.wrap x20))) + (IntKind.u64.wrap z40))) < (IntKind.u64.wrap (x26 * (IntKind.u64.wrap x20))))) then (e2 x24 x22 x25 (IntKind.u64.wrap (x26 * (IntKind.u64.wrap x20)))) else (bif (decide ((IntKind.u64.wrap ((IntKind.u64.wrap (x26 * (IntKind.u64.wrap x20))) + (IntKind.u64.wrap z40))) > x24)) then (e2 x24 x22 x25 (IntKind.u64.wrap (x26 * (IntKind.u64.wrap x20)))) else (rec' x20 x21 x22 x23 x24 x25 (IntKind.u64.wrap ((IntKind.u64.wrap (x26 * (IntKind.u64.wrap x20))) + (IntKind.u64.wrap z40))) x27 x28 (IntKind.i64.wrap (x29 + 1)) x30)))); let j39 := fun (z31 : Bool) => bif z31 then (rec' x20 x21 x22 x23 x24 true x26 x27 x28 (IntKind.i64.wrap (x29 + 1)) x30) else (let j38 := fun (z32 : Bool) => bif z32 then (j42 (IntKind.u8.wrap ((x30.getD x29.toNat (Ty.dflt (.int .u8))) - 48))) else (q40 (x30.getD x29.toNat (Ty.dflt (.int .u8))) (fun y33 => bif (decide ((97 : Int) ≤ y33)) then (q40 (x30.getD x29.toNat (Ty.dflt (.int .u8))) (fun y34 => bif (decide (y34 ≤ (122 : Int))) then (q40 (x30.getD x29.toNat (Ty.dflt (.int .u8))) (fun y37 => j42 (IntKind.u8.wrap ((IntKind.u8.wrap (y37 - 97)) + 10)))) else (e1 0 x22 x25 x26))) else (e1 0 x22 x25 x26))); bif (decide ((48 : Int) ≤ (x30.getD x29.toNat (Ty.dflt (.int .u8))))) then (j38 (decide ((x30.getD x29.toNat (Ty.dflt (.int .u8))) ≤ (57 : Int)))) else (j38 false)); bif ((x30.getD x29.toNat (Ty.dflt (.int .u8))) == 95) then (j39 x21) else (j39 false)))) else (e0 x22 x25 x26)
noncomputable def q33_36_0_L {R : Type} : q33_36_0_ty R
  | 0, _, _, _, _, _, _, _, _, _, _, _, _, _, _, _ => none
  | n + 1, x0', x1', x2', x3', x4', x5', x6', x7', x8', x9', x10', e0, e1, e2, e3 => q33_36_0_B q40 (fun x0' x1' x2' x3' x4' x5' x6' x7' x8' x9' x10' => q33_36_0_L n x0' x1' x2' x3' x4' x5' x6' x7' x8' x9' x10' e0 e1 e2 e3) x0' x1' x2' x3' x4' x5' x6' x7' x8' x9' x10' e0 e1 e2 e3
noncomputable def q33_36_0_h : Hint := { live := [1, 8, 9, 10, 11, 12, 13, 99, 100, 101], own := [], rows := [], cells := [], drop := [], out := [6, 7, 9, 12, 13] }
abbrev q33_36_0_D : Type := Int × Bool × Str × Int × Int × Bool × Int × Nat × Int × Int × (List Int)
noncomputable def q33_36_0_enc : q33_36_0_D → St := fun d => ⟨[.undef, .int .i64 d.1, .undef, .undef, .undef, .undef, .undef, .undef, .bool d.2.1, .str d.2.2.1, .int .u64 d.2.2.2.1, .int .u64 d.2.2.2.2.1, .bool d.2.2.2.2.2.1, .int .u64 d.2.2.2.2.2.2.1, .undef, .undef, .undef, .undef, .undef, .undef, .undef, .undef, .undef, .undef, .undef, .undef, .undef, .undef, .undef, .undef, .undef, .undef, .undef, .undef, .undef, .undef, .undef, .undef, .undef, .undef, .undef, .undef, .undef, .undef, .undef, .undef, .undef, .undef, .undef, .undef, .undef, .undef, .undef, .undef, .undef, .undef, .undef, .undef, .undef, .undef, .undef, .undef, .undef, .undef, .undef, .undef, .undef, .undef, .undef, .undef, .undef, .undef, .undef, .undef, .undef, .undef, .undef, .undef, .undef, .undef, .undef, .undef, .undef, .undef, .undef, .undef, .undef, .undef, .undef, .undef, .undef, .undef, .undef, .undef, .undef, .undef, .undef, .undef, .undef, .row 0 d.2.2.2.2.2.2.2.1, .int .i64 d.2.2.2.2.2.2.2.2.1, .int .i64 d.2.2.2.2.2.2.2.2.2.1, .undef, .undef, .undef, .undef, .undef, .undef, .undef, .undef, .undef, .undef, .undef, .undef, .undef, .undef, .undef, .undef, .undef, .undef, .undef, .undef, .undef, .undef, .undef, .undef, .undef, .undef, .undef, .undef, .undef, .undef, .undef, .undef, .undef, .undef, .undef, .undef, .undef, .undef, .undef, .undef, .undef, .undef, .undef, .undef, .undef, .undef, .undef, .undef, .undef, .undef, .undef, .undef, .undef, .undef, .undef, .undef, .undef, .undef, .undef, .undef, .undef, .undef, .undef, .undef, .undef, .undef, .undef, .undef, .undef, .undef], [.row (.int .u8) d.2.2.2.2.2.2.2.2.2.2]⟩
noncomputable def q33_36_0_x0 {R : Type} (K : Ex → St → Option R) (q0 : Str) (q1 : Bool) (q2 : Int) : Option R := K (.exit 3) ⟨[.undef, .undef, .undef, .undef, .undef, .undef, .undef, .undef, .undef, .str q0, .undef, .undef, .bool q1, .int .u64 q2, .undef, .undef, .undef, .undef, .undef, .undef, .undef, .undef, .undef, .undef, .undef, .undef, .undef, .undef, .undef, .undef, .undef, .undef, .undef, .undef, .undef, .undef, .undef, .undef, .undef, .undef, .undef, .undef, .undef, .undef, .undef, .undef, .undef, .undef, .undef, .undef, .undef, .undef, .undef, .undef, .undef, .undef, .undef, .undef, .undef, .undef, .undef, .undef, .undef, .undef, .undef, .undef, .undef, .undef, .undef, .undef, .undef, .undef, .undef, .undef, .undef, .undef, .undef, .undef, .undef, .undef, .undef, .undef, .undef, .undef, .undef, .undef, .undef, .undef, .undef, .undef, .undef, .undef, .undef, .undef, .undef, .undef, .undef, .undef, .undef, .undef, .undef, .undef, .undef, .undef, .undef, .undef, .undef, .undef, .undef, .undef, .undef, .undef, .undef, .undef, .undef, .undef, .undef, .undef, .undef, .undef, .undef, .undef, .undef, .undef, .undef, .undef, .undef, .undef, .undef, .undef, .undef, .undef, .undef, .undef, .undef, .undef, .undef, .undef, .undef, .undef, .undef, .undef, .undef, .undef, .undef, .undef, .undef, .undef, .undef, .undef, .undef, .undef, .undef, .undef, .undef, .undef, .undef, .undef, .undef, .undef, .undef, .undef, .undef, .undef, .undef, .undef, .undef, .undef, .undef, .undef, .undef, .undef], []⟩
noncomputable def q33_36_0_x1 {R : Type} (K : Ex → St → Option R) (q0 : Int) (q1 : Str) (q2 : Bool) (q3 : Int) : Option R := K (.ret) ⟨[.undef, .undef, .undef, .undef, .undef, .undef, .int .u64 q0, .ifi 184 .i64 2, .undef, .str q1, .undef, .undef, .bool q2, .int .u64 q3, .undef, .undef, .undef, .undef, .undef, .undef, .undef, .undef, .undef, .undef, .undef, .undef, .undef, .undef, .undef, .undef, .undef, .undef, .undef, .undef, .undef, .undef, .undef, .undef, .undef, .undef, .undef, .undef, .undef, .undef, .undef, .undef, .undef, .undef, .undef, .undef, .undef, .undef, .undef, .undef, .undef, .undef, .undef, .undef, .undef, .undef, .undef, .undef, .undef, .undef, .undef, .undef, .undef, .undef, .undef, .undef, .undef, .undef, .undef, .undef, .undef, .undef, .undef, .undef, .undef, .undef, .undef, .undef, .undef, .undef, .undef, .undef, .undef, .undef, .undef, .undef, .undef, .undef, .undef, .undef, .undef, .undef, .undef, .undef, .undef, .undef, .undef, .undef, .undef, .undef, .undef, .undef, .undef, .undef, .undef, .undef, .undef, .undef, .undef, .undef, .undef, .undef, .undef, .undef, .undef, .undef, .undef, .undef, .undef, .undef, .undef, .undef, .undef, .undef, .undef, .undef, .undef, .undef, .undef, .undef, .undef, .undef, .undef, .undef, .undef, .undef, .undef, .undef, .undef, .undef, .undef, .undef, .undef, .undef, .undef, .undef, .undef, .undef, .undef, .undef, .undef, .undef, .undef, .undef, .undef, .undef, .undef, .undef, .undef, .undef, .undef, .undef, .undef, .undef, .undef, .undef, .undef, .undef], []⟩
noncomputable def q33_36_0_x2 {R : Type} (K : Ex → St → Option R) (q0 : Int) (q1 : Str) (q2 : Bool) (q3 : Int) : Option R := K (.ret) ⟨[.undef, .undef, .undef, .undef, .undef, .undef, .int .u64 q0, .ifi 184 .i64 1, .undef, .str q1, .undef, .undef, .bool q2, .int .u64 q3, .undef, .undef, .undef, .undef, .undef, .undef, .undef, .undef, .undef, .undef, .undef, .undef, .undef, .undef, .undef, .undef, .undef, .undef, .undef, .undef, .undef, .undef, .undef, .undef, .undef, .undef, .undef, .undef, .undef, .undef, .undef, .undef, .undef, .undef, .undef, .undef, .undef, .undef, .undef, .undef, .undef, .undef, .undef, .undef, .undef, .undef, .undef, .undef, .undef, .undef, .undef, .undef, .undef, .undef, .undef, .undef, .undef, .undef, .undef, .undef, .undef, .undef, .undef, .undef, .undef, .undef, .undef, .undef, .undef, .undef, .undef, .undef, .undef, .undef, .undef, .undef, .undef, .undef, .undef, .undef, .undef, .undef, .undef, .undef, .undef, .undef, .undef, .undef, .undef, .undef, .undef, .undef, .undef, .undef, .undef, .undef, .undef, .undef, .undef, .undef, .undef, .undef, .undef, .undef, .undef, .undef, .undef, .undef, .undef, .undef, .undef, .undef, .undef, .undef, .undef, .undef, .undef, .undef, .undef, .undef, .undef, .undef, .undef, .undef, .undef, .undef, .undef, .undef, .undef, .undef, .undef, .undef, .undef, .undef, .undef, .undef, .undef, .undef, .undef, .undef, .undef, .undef, .undef, .undef, .undef, .undef, .undef, .undef, .undef, .undef, .undef, .undef, .undef, .undef, .undef, .undef, .undef, .undef], []⟩
noncomputable def q33_36_0_x3 {R : Type} (K : Ex → St → Option R) (q0 : Int) (q1 : Str) (q2 : Bool) : Option R := K (.ret) ⟨[.undef, .undef, .undef, .undef, .undef, .undef, .int .u64 q0, .ifi 184 .i64 1, .undef, .str q1, .undef, .undef, .bool q2, .undef, .undef, .undef, .undef, .undef, .undef, .undef, .undef, .undef, .undef, .undef, .undef, .undef, .undef, .undef, .undef, .undef, .undef, .undef, .undef, .undef, .undef, .undef, .undef, .undef, .undef, .undef, .undef, .undef, .undef, .undef, .undef, .undef, .undef, .undef, .undef, .undef, .undef, .undef, .undef, .undef, .undef, .undef, .undef, .undef, .undef, .undef, .undef, .undef, .undef, .undef, .undef, .undef, .undef, .undef, .undef, .undef, .undef, .undef, .undef, .undef, .undef, .undef, .undef, .undef, .undef, .undef, .undef, .undef, .undef, .undef, .undef, .undef, .undef, .undef, .undef, .undef, .undef, .undef, .undef, .undef, .undef, .undef, .undef, .undef, .undef, .undef, .undef, .undef, .undef, .undef, .undef, .undef, .undef, .undef, .undef, .undef, .undef, .undef, .undef, .undef, .undef, .undef, .undef, .undef, .undef, .undef, .undef, .undef, .undef, .undef, .undef, .undef, .undef, .undef, .undef, .undef, .undef, .undef, .undef, .undef, .undef, .undef, .undef, .undef, .undef, .undef, .undef, .undef, .undef, .undef, .undef, .undef, .undef, .undef, .undef, .undef, .undef, .undef, .undef, .undef, .undef, .undef, .undef, .undef, .undef, .undef, .undef, .undef, .undef, .undef, .undef, .undef, .undef, .undef, .undef, .undef, .undef, .undef], []⟩
noncomputable def q33_36_0_s {R : Type} (q40 : q40_ty R) (K : Ex → St → Option R) (rc : q33_36_0_D → Option R) (d : q33_36_0_D) : Option R := q33_36_0_B q40 (fun z0 z1 z2 z3 z4 z5 z6 z7 z8 z9 z10 => rc (z0, z1, z2, z3, z4, z5, z6, z7, z8, z9, z10)) d.1 d.2.1 d.2.2.1 d.2.2.2.1 d.2.2.2.2.1 d.2.2.2.2.2.1 d.2.2.2.2.2.2.1 d.2.2.2.2.2.2.2.1 d.2.2.2.2.2.2.2.2.1 d.2.2.2.2.2.2.2.2.2.1 d.2.2.2.2.2.2.2.2.2.2 (q33_36_0_x0 K) (q33_36_0_x1 K) (q33_36_0_x2 K) (q33_36_0_x3 K)
noncomputable def q33_36_0_A {R : Type} (K : Ex → St → Option R) (n : Nat) (d : q33_36_0_D) : Option R := q33_36_0_L n d.1 d.2.1 d.2.2.1 d.2.2.2.1 d.2.2.2.2.1 d.2.2.2.2.2.1 d.2.2.2.2.2.2.1 d.2.2.2.2.2.2.2.1 d.2.2.2.2.2.2.2.2.1 d.2.2.2.2.2.2.2.2.2.1 d.2.2.2.2.2.2.2.2.2.2 (q33_36_0_x0 K) (q33_36_0_x1 K) (q33_36_0_x2 K) (q33_36_0_x3 K)
abbrev q33_36_0_p : List Pat := [.leaf (.undef), .leaf (.int .i64), .leaf (.undef), .leaf (.undef), .leaf (.undef), .leaf (.undef), .leaf (.undef), .leaf (.undef), .leaf (.bool), .leaf (.str), .leaf (.int .u64), .leaf (.int .u64), .leaf (.bool), .leaf (.int .u64), .leaf (.undef), .leaf (.undef), .leaf (.undef), .leaf (.undef), .leaf (.undef), .leaf (.undef), .leaf (.undef), .leaf (.undef), .leaf (.undef), .leaf (.undef), .leaf (.undef), .leaf (.undef), .leaf (.undef), .leaf (.undef), .leaf (.undef), .leaf (.undef), .leaf (.undef), .leaf (.undef), .leaf (.undef), .leaf (.undef), .leaf (.undef), .leaf (.undef), .leaf (.undef), .leaf (.undef), .leaf (.undef), .leaf (.undef), .leaf (.undef), .leaf (.undef), .leaf (.undef), .leaf (.undef), .leaf (.undef), .leaf (.undef), .leaf (.undef), .leaf (.undef), .leaf (.undef), .leaf (.undef), .leaf (.undef), .leaf (.undef), .leaf (.undef), .leaf (.undef), .leaf (.undef), .leaf (.undef), .leaf (.undef), .leaf (.undef), .leaf (.undef), .leaf (.undef), .leaf (.undef), .leaf (.undef), .leaf (.undef), .leaf (.undef), .leaf (.undef), .leaf (.undef), .leaf (.undef), .leaf (.undef), .leaf (.undef), .leaf (.undef), .leaf (.undef), .leaf (.undef), .leaf (.undef), .leaf (.undef), .leaf (.undef), .leaf (.undef), .leaf (.undef), .leaf (.undef), .leaf (.undef), .leaf (.undef), .leaf (.undef), .leaf (.undef), .leaf (.undef), .leaf (.undef), .leaf (.undef), .leaf (.undef), .leaf (.undef), .leaf (.undef), .leaf (.undef), .leaf (.undef), .leaf (.undef), .leaf (.undef), .leaf (.undef), .leaf (.undef), .leaf (.undef), .leaf (.undef), .leaf (.undef), .leaf (.undef), .leaf (.undef), .leaf (.row 0), .leaf (.int .i64), .leaf (.int .i64), .leaf (.undef), .leaf (.undef), .leaf (.undef), .leaf (.undef), .leaf (.undef), .leaf (.undef), .leaf (.undef), .leaf (.undef), .leaf (.undef), .leaf (.undef), .leaf (.undef), .leaf (.undef), .leaf (.undef), .leaf (.undef), .leaf (.undef), .leaf (.undef), .leaf (.undef), .leaf (.undef), .leaf (.undef), .leaf (.undef), .leaf (.undef), .leaf (.undef), .leaf (.undef), .leaf (.undef), .leaf (.undef), .leaf (.undef), .leaf (.undef), .leaf (.undef), .leaf (.undef), .leaf (.undef), .leaf (.undef), .leaf (.undef), .leaf (.undef), .leaf (.undef), .leaf (.undef), .leaf (.undef), .leaf (.undef), .leaf (.undef), .leaf (.undef), .leaf (.undef), .leaf (.undef), .leaf (.undef), .leaf (.undef), .leaf (.undef), .leaf (.undef), .leaf (.undef), .leaf (.undef), .leaf (.undef), .leaf (.undef), .leaf (.undef), .leaf (.undef), .leaf (.undef), .leaf (.undef), .leaf (.undef), .leaf (.undef), .leaf (.undef), .leaf (.undef), .leaf (.undef), .leaf (.undef), .leaf (.undef), .leaf (.undef), .leaf (.undef), .leaf (.undef), .leaf (.undef), .leaf (.undef), .leaf (.undef), .leaf (.undef), .leaf (.undef), .leaf (.undef), .leaf (.undef)]
abbrev q33_36_0_q : List HPat := [.row (.int .u8)]
noncomputable def q33_36_0_f (x : Pat.dens q33_36_0_p) (y : HPat.dens q33_36_0_q) : Nat := (Int.natAbs x.2.1 + List.length x.2.2.2.2.2.2.2.2.2.1 + Int.natAbs x.2.2.2.2.2.2.2.2.2.2.1 + Int.natAbs x.2.2.2.2.2.2.2.2.2.2.2.1 + Int.natAbs x.2.2.2.2.2.2.2.2.2.2.2.2.2.1 + Int.natAbs x.2.2.2.2.2.2.2.2.2.2.2.2.2.2.2.2.2.2.2.2.2.2.2.2.2.2.2.2.2.2.2.2.2.2.2.2.2.2.2.2.2.2.2.2.2.2.2.2.2.2.2.2.2.2.2.2.2.2.2.2.2.2.2.2.2.2.2.2.2.2.2.2.2.2.2.2.2.2.2.2.2.2.2.2.2.2.2.2.2.2.2.2.2.2.2.2.2.2.2.2.1 + Int.natAbs x.2.2.2.2.2.2.2.2.2.2.2.2.2.2.2.2.2.2.2.2.2.2.2.2.2.2.2.2.2.2.2.2.2.2.2.2.2.2.2.2.2.2.2.2.2.2.2.2.2.2.2.2.2.2.2.2.2.2.2.2.2.2.2.2.2.2.2.2.2.2.2.2.2.2.2.2.2.2.2.2.2.2.2.2.2.2.2.2.2.2.2.2.2.2.2.2.2.2.2.2.2.1 + List.length y.1 + 64)
noncomputable def q33_36_0_d (x : Pat.dens q33_36_0_p) (y : HPat.dens q33_36_0_q) : q33_36_0_D := (x.2.1, x.2.2.2.2.2.2.2.2.1, x.2.2.2.2.2.2.2.2.2.1, x.2.2.2.2.2.2.2.2.2.2.1, x.2.2.2.2.2.2.2.2.2.2.2.1, x.2.2.2.2.2.2.2.2.2.2.2.2.1, x.2.2.2.2.2.2.2.2.2.2.2.2.2.1, x.2.2.2.2.2.2.2.2.2.2.2.2.2.2.2.2.2.2.2.2.2.2.2.2.2.2.2.2.2.2.2.2.2.2.2.2.2.2.2.2.2.2.2.2.2.2.2.2.2.2.2.2.2.2.2.2.2.2.2.2.2.2.2.2.2.2.2.2.2.2.2.2.2.2.2.2.2.2.2.2.2.2.2.2.2.2.2.2.2.2.2.2.2.2.2.2.2.2.2.1, x.2.2.2.2.2.2.2.2.2.2.2.2.2.2.2.2.2.2.2.2.2.2.2.2.2.2.2.2.2.2.2.2.2.2.2.2.2.2.2.2.2.2.2.2.2.2.2.2.2.2.2.2.2.2.2.2.2.2.2.2.2.2.2.2.2.2.2.2.2.2.2.2.2.2.2.2.2.2.2.2.2.2.2.2.2.2.2.2.2.2.2.2.2.2.2.2.2.2.2.2.1, x.2.2.2.2.2.2.2.2.2.2.2.2.2.2.2.2.2.2.2.2.2.2.2.2.2.2.2.2.2.2.2.2.2.2.2.2.2.2.2.2.2.2.2.2.2.2.2.2.2.2.2.2.2.2.2.2.2.2.2.2.2.2.2.2.2.2.2.2.2.2.2.2.2.2.2.2.2.2.2.2.2.2.2.2.2.2.2.2.2.2.2.2.2.2.2.2.2.2.2.2.2.1, y.1)
noncomputable def q33_36_0_rr {R : Type} (L : q33_36_0_ty R) : Pat.dens q33_36_0_p → HPat.dens q33_36_0_q → (Ex → St → Option R) → Option R := fun x y K => L (q33_36_0_f x y) x.2.1 x.2.2.2.2.2.2.2.2.1 x.2.2.2.2.2.2.2.2.2.1 x.2.2.2.2.2.2.2.2.2.2.1 x.2.2.2.2.2.2.2.2.2.2.2.1 x.2.2.2.2.2.2.2.2.2.2.2.2.1 x.2.2.2.2.2.2.2.2.2.2.2.2.2.1 x.2.2.2.2.2.2.2.2.2.2.2.2.2.2.2.2.2.2.2.2.2.2.2.2.2.2.2.2.2.2.2.2.2.2.2.2.2.2.2.2.2.2.2.2.2.2.2.2.2.2.2.2.2.2.2.2.2.2.2.2.2.2.2.2.2.2.2.2.2.2.2.2.2.2.2.2.2.2.2.2.2.2.2.2.2.2.2.2.2.2.2.2.2.2.2.2.2.2.2.1 x.2.2.2.2.2.2.2.2.2.2.2.2.2.2.2.2.2.2.2.2.2.2.2.2.2.2.2.2.2.2.2.2.2.2.2.2.2.2.2.2.2.2.2.2.2.2.2.2.2.2.2.2.2.2.2.2.2.2.2.2.2.2.2.2.2.2.2.2.2.2.2.2.2.2.2.2.2.2.2.2.2.2.2.2.2.2.2.2.2.2.2.2.2.2.2.2.2.2.2.2.1 x.2.2.2.2.2.2.2.2.2.2.2.2.2.2.2.2.2.2.2.2.2.2.2.2.2.2.2.2.2.2.2.2.2.2.2.2.2.2.2.2.2.2.2.2.2.2.2.2.2.2.2.2.2.2.2.2.2.2.2.2.2.2.2.2.2.2.2.2.2.2.2.2.2.2.2.2.2.2.2.2.2.2.2.2.2.2.2.2.2.2.2.2.2.2.2.2.2.2.2.2.2.1 y.1 (q33_36_0_x0 K) (q33_36_0_x1 K) (q33_36_0_x2 K) (q33_36_0_x3 K)
noncomputable def q33_T (R : Type) (q33_36_0_L : q33_36_0_ty R) : Nat → Option (Hint × LSpec R) := fun i => match i with
  | 36 => some (q33_36_0_h, (loopBy q33_36_0_p q33_36_0_q (q33_36_0_rr q33_36_0_L) loopNo))
  | _ => none
theorem q33_36_0_B_ok {R : Type} (q40 : q40_ty R) (q28 : q28_ty R) (q33_36_0_L : q33_36_0_ty R) (K : Ex → St → Option R) (rc : St → Option R) (d : q33_36_0_D) : roundOf tt (q33_E R q40 q28) (q33_T R q33_36_0_L) 0 ((loopsOf (codeOf Tryz.f169)).getD 0 .skip) q33_36_0_h (q33_36_0_enc d) rc K = q33_36_0_s q40 K (fun d => rc (q33_36_0_enc d)) d := by kernel_rfl
theorem q33_36_0_A_succ {R : Type} (K : Ex → St → Option R) (n : Nat) (d : q33_36_0_D) : q33_36_0_A K (n + 1) d = q33_36_0_s q40 K (q33_36_0_A K n) d := by kernel_rfl
theorem q33_36_0_A_zero {R : Type} (K : Ex → St → Option R) (d : q33_36_0_D) : q33_36_0_A K 0 d = none := by kernel_rfl
theorem q33_36_0_e_ok (x : Pat.dens q33_36_0_p) (y : HPat.dens q33_36_0_q) : (⟨Pat.encL q33_36_0_p x, HPat.encL q33_36_0_q y⟩ : St) = q33_36_0_enc (q33_36_0_d x y) := by kernel_rfl
theorem q33_36_0_r_ok {R : Type} (x : Pat.dens q33_36_0_p) (y : HPat.dens q33_36_0_q) (K : Ex → St → Option R) : q33_36_0_rr (q33_36_0_L) x y K = q33_36_0_A K (q33_36_0_f x y) (q33_36_0_d x y) := by kernel_rfl
theorem q33_36_0_ok {R : Type} (other : LSpec R) (ho : LsOk tt (q33_E R q40 q28) (q33_T R q33_36_0_L) 0 ((loopsOf (codeOf Tryz.f169)).getD 0 .skip) q33_36_0_h other) : LsOk tt (q33_E R q40 q28) (q33_T R q33_36_0_L) 0 ((loopsOf (codeOf Tryz.f169)).getD 0 .skip) q33_36_0_h (loopBy q33_36_0_p q33_36_0_q (q33_36_0_rr (q33_36_0_L)) other) :=
  loopBy_tie (A := q33_36_0_A) ho (loop_tie q33_36_0_enc (q33_36_0_s q40) (q33_36_0_A) (q33_36_0_A_zero) (q33_36_0_B_ok q40 q28 q33_36_0_L) (q33_36_0_A_succ)) q33_36_0_f q33_36_0_d q33_36_0_e_ok (q33_36_0_r_ok)
noncomputable def q33_X {R : Type} (q40 : q40_ty R) (q28 : q28_ty R) (q33_36_0_L : q33_36_0_ty R) (x1 : Str) (x2 : Int) (x3 : Int) (k0 : Int → Option R) (k1 : Int → Option R) (k2 : Int → Option R) (k3 : Int → Option R) (k4 : Int → Option R) : Option R :=
  bif (x1 == ([] : Str)) then (k0 0) else (let j63 := fun (z15 : Str) (z16 : Int) => let j62 := fun (z18 : Int) => let j61 := fun (z19 : Int) => chk (decide ((0 : Int) ≤ (IntKind.u64.wrap z18))) (q33_36_0_L (Int.natAbs z16 + List.length x1 + Int.natAbs z19 + Int.natAbs (IntKind.u64.wrap ((IntKind.u64.wrap (1 * 2 ^ (min ((IntKind.u64.wrap z18).toNat) IntKind.u64.bits))) - 1)) + Int.natAbs 0 + Int.natAbs (z15.length : Int) + Int.natAbs 0 + List.length (bytesN z15) + 64) z16 (x2 == 0) x1 z19 (IntKind.u64.wrap ((IntKind.u64.wrap (1 * 2 ^ (min ((IntKind.u64.wrap z18).toNat) IntKind.u64.bits))) - 1)) false 0 z15.length (z15.length : Int) 0 (bytesN z15) (fun y45 y46 y47 => bif y46 then (q28 y45 (fun y59 => bif (!y59) then (k0 0) else (k4 y47))) else (k4 y47)) (fun y48 y49 y50 y51 => k0 y48) (fun y52 y53 y54 y55 => k3 y52) (fun y56 y57 y58 => k3 y56)); bif (z16 == 10) then (j61 1844674407370955162) else (bif (z16 == 16) then (j61 1152921504606846976) else (chk (!decide ((IntKind.u64.wrap z16) = 0)) (j61 (IntKind.u64.wrap ((IntKind.u64.wrap (Int.tdiv 18446744073709551615 (IntKind.u64.wrap z16))) + 1))))); bif (x3 == 0) then (j62 64) else (bif (decide (x3 < (0 : Int))) then (k2 0) else (bif (decide (x3 > (64 : Int))) then (k2 0) else (j62 x3))); let j14 := fun (z4 : Bool) => bif z4 then (j63 x1 x2) else (bif (x2 == 0) then (chk (decide ((0 : Int) < x1.length)) (bif (((x1.getD 0 0).toNat : Int) == 48) then (let j13 := fun (z6 : Bool) => bif z6 then (chk (decide ((0 : Int) ≤ (x1.length : Int)) && decide ((x1.length : Int) ≤ x1.length)) (chk (decide ((2 : Int) ≤ (x1.length : Int))) (j63 ((x1.drop 2).take ((x1.length : Int).toNat - 2)) 2))) else (let j12 := fun (z8 : Bool) => bif z8 then (chk (decide ((0 : Int) ≤ (x1.length : Int)) && decide ((x1.length : Int) ≤ x1.length)) (chk (decide ((2 : Int) ≤ (x1.length : Int))) (j63 ((x1.drop 2).take ((x1.length : Int).toNat - 2)) 8))) else (let j11 := fun (z10 : Bool) => bif z10 then (chk (decide ((0 : Int) ≤ (x1.length : Int)) && decide ((x1.length : Int) ≤ x1.length)) (chk (decide ((2 : Int) ≤ (x1.length : Int))) (j63 ((x1.drop 2).take ((x1.length : Int).toNat - 2)) 16))) else (chk (decide ((0 : Int) ≤ (x1.length : Int)) && decide ((x1.length : Int) ≤ x1.length)) (chk (decide ((1 : Int) ≤ (x1.length : Int))) (j63 ((x1.drop 1).take ((x1.length : Int).toNat - 1)) 8))); bif (decide ((x1.length : Int) ≥ (3 : Int))) then (chk (decide ((1 : Int) < x1.length)) (q40 ((x1.getD 1 0).toNat : Int) (fun y9 => j11 (y9 == 120)))) else (j11 false)); bif (decide ((x1.length : Int) ≥ (3 : Int))) then (chk (decide ((1 : Int) < x1.length)) (q40 ((x1.getD 1 0).toNat : Int) (fun y7 => j12 (y7 == 111)))) else (j12 false)); bif (decide ((x1.length : Int) ≥ (3 : Int))) then (chk (decide ((1 : Int) < x1.length)) (q40 ((x1.getD 1 0).toNat : Int) (fun y5 => j13 (y5 == 98)))) else (j13 false)) else (j63 x1 10))) else (k1 0)); bif (decide ((2 : Int) ≤ x2)) then (j14 (decide (x2 ≤ (36 : Int)))) else (j14 false))
noncomputable def q33 {R : Type} : q33_ty R := fun x1 x2 x3 k0 k1 k2 k3 k4 => q33_X q40 q28 q33_36_0_L x1 x2 x3 k0 k1 k2 k3 k4
theorem q33_ok {R : Type} (q40 : q40_ty R) (q28 : q28_ty R) (q33_36_0_L : q33_36_0_ty R) (x1 : Str) (x2 : Int) (x3 : Int) (k : V → Heap → Option R) : funK tt (q33_E R q40 q28) (q33_T R q33_36_0_L) false Tryz.f169 (codeOf Tryz.f169) [.str x1, .int .i64 x2, .int .i64 x3] [] k =
    q33_X q40 q28 q33_36_0_L x1 x2 x3 (fun q0 => k (.tuple [.int .u64 q0, .ifi 184 .i64 2]) []) (fun q0 => k (.tuple [.int .u64 q0, .ifi 184 .i64 3]) []) (fun q0 => k (.tuple [.int .u64 q0, .ifi 184 .i64 4]) []) (fun q0 => k (.tuple [.int .u64 q0, .ifi 184 .i64 1]) []) (fun q0 => k (.tuple [.int .u64 q0, .niliface]) []) := by kernel_rfl
theorem q33_loops (R : Type) : ∀ a ∈ loopsOf (codeOf Tryz.f169), LoopOk tt (q33_E R q40 q28) (q33_T R q33_36_0_L) 0 a := by
  refine loops_ok 1 (by kernel_rfl) fun i hi => ?_
  match i, hi with
  | 0, _ => exact loopOk_some (by kernel_rfl) (q33_36_0_ok _ loopNo_ok)
  | n + 1, hi => omega
theorem q33_S_ok (R : Type) (other : Yard.Spec R) (ho : Yard.Spec.Ok Tryz.prog 169 other) : Yard.Spec.Ok Tryz.prog 169 (specBy q33_p q33_q (q33_rr q33) other) :=
  specBy_ok ho (funK_sound TT mixed (q33_EOk R) (keep := false) rfl rfl rfl rfl 0 (q33_loops R)) fun (x : Pat.dens q33_p) (y : HPat.dens q33_q) k => q33_ok q40 q28 q33_36_0_L x.1 x.2.1 x.2.2.1 k
end Go.Proofs.YtmlkkgfenfdndaaGreatDoor
/-
  Functions of the program as pure Lean functions, and the ties; printed by wip/tools/emit.py.
-/
set_option maxRecDepth 100000
namespace Go.Proofs.YtmlkkgfenfdndaaGreatDoor
open Go Go.Yard
/-! ### strconv.ParseUint -/
abbrev q53_ty (R : Type) : Type := Str → Int → Int → (Int → Option R) → (Int → Option R) → Option R
abbrev q53_p : List Pat := [.leaf (.str), .leaf (.int .i64), .leaf (.int .i64)]
abbrev q53_q : List HPat := []
noncomputable def q53_rr {R : Type} (fn : q53_ty R) : Pat.dens q53_p → HPat.dens q53_q → (V → Heap → Option R) → Option R := fun x y k => fn x.1 x.2.1 x.2.2.1 (fun q0 => k (.tuple [.int .u64 q0, .iface]) []) (fun q0 => k (.tuple [.int .u64 q0, .niliface]) [])
noncomputable def q53_E (R : Type) (q33 : q33_ty R) : Env R := fun i => match i with
  | 136 => some (true, (toErr_S R 184))
  | 169 => some (true, (specBy q33_p q33_q (q33_rr q33) specNo))
  | _ => none
theorem q53_EOk (R : Type) : EOk Tryz.prog (q53_E R q33) := by
  intro i b sp h
  unfold q53_E at h
  split at h
  · cases h; exact ⟨(toErr_ok), fun h => nomatch h⟩
  · cases h; exact ⟨(q33_S_ok R _ (specNo_ok _)), fun h => nomatch h⟩
  · cases h
noncomputable def q53_T (R : Type) : Nat → Option (Hint × LSpec R) := fun i => match i with
  | _ => none
noncomputable def q53_X {R : Type} (q33 : q33_ty R) (x1 : Str) (x2 : Int) (x3 : Int) (k0 : Int → Option R) (k1 : Int → Option R) : Option R :=
  q33 x1 x2 x3 (fun y4 => chk (Nat.beq 184 184 && (2 == 2 || 2 == 1)) (chk (decide (x1.length ≤ 281474976710656)) (k0 y4))) (fun y5 => chk (Nat.beq 184 184 && (3 == 2 || 3 == 1)) (chk (decide (x1.length ≤ 281474976710656)) (k0 y5))) (fun y6 => chk (Nat.beq 184 184 && (4 == 2 || 4 == 1)) (chk (decide (x1.length ≤ 281474976710656)) (k0 y6))) (fun y7 => chk (Nat.beq 184 184 && (1 == 2 || 1 == 1)) (chk (decide (x1.length ≤ 281474976710656)) (k0 y7))) (fun y8 => k1 y8)
noncomputable def q53 {R : Type} : q53_ty R := fun x1 x2 x3 k0 k1 => q53_X q33 x1 x2 x3 k0 k1
theorem q53_ok {R : Type} (q33 : q33_ty R) (x1 : Str) (x2 : Int) (x3 : Int) (k : V → Heap → Option R) : funK tt (q53_E R q33) (q53_T R) false Tryz.f172 (codeOf Tryz.f172) [.str x1, .int .i64 x2, .int .i64 x3] [] k =
    q53_X q33 x1 x2 x3 (fun q0 => k (.tuple [.int .u64 q0, .iface]) []) (fun q0 => k (.tuple [.int .u64 q0, .niliface]) []) := by kernel_rfl
theorem q53_loops (R : Type) : ∀ a ∈ loopsOf (codeOf Tryz.f172), LoopOk tt (q53_E R q33) (q53_T R) 0 a := by
  refine loops_ok 0 (by kernel_rfl) fun i hi => ?_
  omega
theorem q53_S_ok (R : Type) (other : Yard.Spec R) (ho : Yard.Spec.Ok Tryz.prog 172 other) : Yard.Spec.Ok Tryz.prog 172 (specBy q53_p q53_q (q53_rr q53) other) :=
  specBy_ok ho (funK_sound TT mixed (q53_EOk R) (keep := false) rfl rfl rfl rfl 0 (q53_loops R)) fun (x : Pat.dens q53_p) (y : HPat.dens q53_q) k => q53_ok q33 x.1 x.2.1 x.2.2.1 k
/-! ### (*humpyard/quote.reader).unit -/
abbrev q44_ty (R : Type) : Type := Str → (Int → Str → Option R) → Option R
abbrev q44_p : List Pat := [.leaf (.ptr 0 0)]
abbrev q44_q : List HPat := [.cells [.str]]
noncomputable def q44_rr {R : Type} (fn : q44_ty R) : Pat.dens q44_p → HPat.dens q44_q → (V → Heap → Option R) → Option R := fun x y k => fn y.1.1 (fun q0 q1 => k (.int .i32 q0) [.cells [.str q1]])
noncomputable def q44_E (R : Type) (q53 : q53_ty R) : Env R := fun i => match i with
  | 172 => some (true, (specBy q53_p q53_q (q53_rr q53) specNo))
  | 173 => some (true, (hasAny_S R))
  | _ => none
theorem q44_EOk (R : Type) : EOk Tryz.prog (q44_E R q53) := by
  intro i b sp h
  unfold q44_E at h
  split at h
  · cases h; exact ⟨(q53_S_ok R _ (specNo_ok _)), fun h => nomatch h⟩
  · cases h; exact ⟨(hasAny_ok), fun h => nomatch h⟩
  · cases h
noncomputable def q44_T (R : Type) : Nat → Option (Hint × LSpec R) := fun i => match i with
  | _ => none
noncomputable def q44_X {R : Type} (q53 : q53_ty R) (x1 : Str) (k0 : Int → Str → Option R) : Option R :=
  bif (decide ((x1.length : Int) < (4 : Int))) then (k0 (-1) x1) else (chk (decide ((4 : Int) ≤ x1.length)) (q53 ((x1.drop 0).take (4 - 0)) 16 16 (fun y2 => k0 (-1) x1) (fun y3 => chk (isAsc ((x1.drop 0).take (4 - 0)) && isAsc ([43, 45, 95] : Str) && decide (((x1.drop 0).take (4 - 0)).length < 4294967281) && decide (([43, 45, 95] : Str).length < 4294967281)) (bif (hasAny ((x1.drop 0).take (4 - 0)) ([43, 45, 95] : Str)) then (k0 (-1) x1) else (chk (decide ((0 : Int) ≤ (x1.length : Int)) && decide ((x1.length : Int) ≤ x1.length)) (chk (decide ((4 : Int) ≤ (x1.length : Int))) (k0 (IntKind.i32.wrap y3) ((x1.drop 4).take ((x1.length : Int).toNat - 4)))))))))
noncomputable def q44 {R : Type} : q44_ty R := fun x1 k0 => q44_X q53 x1 k0
theorem q44_ok {R : Type} (q53 : q53_ty R) (x1 : Str) (k : V → Heap → Option R) : funK tt (q44_E R q53) (q44_T R) false Tryz.f157 (codeOf Tryz.f157) [.ptr 0 0] [.cells [.str x1]] k =
    q44_X q53 x1 (fun q0 q1 => k (.int .i32 q0) [.cells [.str q1]]) := by kernel_rfl
theorem q44_loops (R : Type) : ∀ a ∈ loopsOf (codeOf Tryz.f157), LoopOk tt (q44_E R q53) (q44_T R) 1 a := by
  refine loops_ok 0 (by kernel_rfl) fun i hi => ?_
  omega
theorem q44_S_ok (R : Type) (other : Yard.Spec R) (ho : Yard.Spec.Ok Tryz.prog 157 other) : Yard.Spec.Ok Tryz.prog 157 (specBy q44_p q44_q (q44_rr q44) other) :=
  specBy_ok ho (funK_sound TT mixed (q44_EOk R) (keep := false) rfl rfl rfl rfl 1 (q44_loops R)) fun (x : Pat.dens q44_p) (y : HPat.dens q44_q) k => q44_ok q53 y.1.1 k
/-! ### (*humpyard/quote.reader).long -/
abbrev q41_ty (R : Type) : Type := Str → (Int → Str → Option R) → Option R
abbrev q41_p : List Pat := [.leaf (.ptr 0 0)]
abbrev q41_q : List HPat := [.cells [.str]]
noncomputable def q41_rr {R : Type} (fn : q41_ty R) : Pat.dens q41_p → HPat.dens q41_q → (V → Heap → Option R) → Option R := fun x y k => fn y.1.1 (fun q0 q1 => k (.int .i32 q0) [.cells [.str q1]])
noncomputable def q41_E (R : Type) (q43 : q43_ty R) (q44 : q44_ty R) : Env R := fun i => match i with
  | 107 => some (false, (specBy q43_p q43_q (q43_rr q43) specNo))
  | 157 => some (false, (specBy q44_p q44_q (q44_rr q44) specNo))
  | _ => none
theorem q41_EOk (R : Type) : EOk Tryz.prog (q41_E R q43 q44) := by
  intro i b sp h
  unfold q41_E at h
  split at h
  · cases h; exact ⟨(q43_S_ok R _ (specNo_ok _)), fun _ h => nomatch h⟩
  · cases h; exact ⟨(q44_S_ok R _ (specNo_ok _)), fun _ h => nomatch h⟩
  · cases h
noncomputable def q41_T (R : Type) : Nat → Option (Hint × LSpec R) := fun i => match i with
  | _ => none
noncomputable def q41_X {R : Type} (q43 : q43_ty R) (q44 : q44_ty R) (x1 : Str) (k0 : Int → Str → Option R) : Option R :=
  q44 x1 (fun y2 y3 => bif (decide (y2 < (55296 : Int))) then (k0 y2 y3) else (bif (decide (y2 ≥ (57344 : Int))) then (k0 y2 y3) else (bif (decide (y2 ≥ (56320 : Int))) then (k0 (-1) y3) else (q43 ([92, 117] : Str) y3 (fun y5 y6 => bif (!y5) then (k0 (-1) y6) else (q44 y6 (fun y9 y10 => bif (decide (y9 < (56320 : Int))) then (k0 (-1) y10) else (bif (decide (y9 ≥ (57344 : Int))) then (k0 (-1) y10) else (k0 (IntKind.i32.wrap ((IntKind.i32.wrap ((IntKind.i32.wrap (65536 + (IntKind.i32.wrap ((IntKind.i32.wrap (y2 - 55296)) * 2 ^ (min 10 IntKind.i32.bits))))) + y9)) - 56320)) y10)))))))))
noncomputable def q41 {R : Type} : q41_ty R := fun x1 k0 => q41_X q43 q44 x1 k0
theorem q41_ok {R : Type} (q43 : q43_ty R) (q44 : q44_ty R) (x1 : Str) (k : V → Heap → Option R) : funK tt (q41_E R q43 q44) (q41_T R) false Tryz.f138 (codeOf Tryz.f138) [.ptr 0 0] [.cells [.str x1]] k =
    q41_X q43 q44 x1 (fun q0 q1 => k (.int .i32 q0) [.cells [.str q1]]) := by kernel_rfl
theorem q41_loops (R : Type) : ∀ a ∈ loopsOf (codeOf Tryz.f138), LoopOk tt (q41_E R q43 q44) (q41_T R) 1 a := by
  refine loops_ok 0 (by kernel_rfl) fun i hi => ?_
  omega
theorem q41_S_ok (R : Type) (other : Yard.Spec R) (ho : Yard.Spec.Ok Tryz.prog 138 other) : Yard.Spec.Ok Tryz.prog 138 (specBy q41_p q41_q (q41_rr q41) other) :=
  specBy_ok ho (funK_sound TT mixed (q41_EOk R) (keep := false) rfl rfl rfl rfl 1 (q41_loops R)) fun (x : Pat.dens q41_p) (y : HPat.dens q41_q) k => q41_ok q43 q44 y.1.1 k
/-! ### (*humpyard/quote.reader).escaped -/
abbrev q35_ty (R : Type) : Type := Str → (Int → Str → Option R) → Option R
abbrev q35_p : List Pat := [.leaf (.ptr 0 0)]
abbrev q35_q : List HPat := [.cells [.str]]
noncomputable def q35_rr {R : Type} (fn : q35_ty R) : Pat.dens q35_p → HPat.dens q35_q → (V → Heap → Option R) → Option R := fun x y k => fn y.1.1 (fun q0 q1 => k (.int .i32 q0) [.cells [.str q1]])
noncomputable def q35_E (R : Type) (q41 : q41_ty R) : Env R := fun i => match i with
  | 138 => some (false, (specBy q41_p q41_q (q41_rr q41) specNo))
  | _ => none
theorem q35_EOk (R : Type) : EOk Tryz.prog (q35_E R q41) := by
  intro i b sp h
  unfold q35_E at h
  split at h
  · cases h; exact ⟨(q41_S_ok R _ (specNo_ok _)), fun _ h => nomatch h⟩
  · cases h
noncomputable def q35_T (R : Type) : Nat → Option (Hint × LSpec R) := fun i => match i with
  | _ => none
noncomputable def q35_X {R : Type} (q41 : q41_ty R) (x1 : Str) (k0 : Int → Str → Option R) : Option R :=
  bif (x1 == ([] : Str)) then (k0 (-1) x1) else (chk (decide ((0 : Int) < x1.length)) (chk (decide ((0 : Int) ≤ (x1.length : Int)) && decide ((x1.length : Int) ≤ x1.length)) (chk (decide ((1 : Int) ≤ (x1.length : Int))) (let j5 := fun (z2 : Bool) => bif z2 then (k0 (IntKind.i32.wrap ((x1.getD 0 0).toNat : Int)) ((x1.drop 1).take ((x1.length : Int).toNat - 1))) else (bif (((x1.getD 0 0).toNat : Int) == 98) then (k0 8 ((x1.drop 1).take ((x1.length : Int).toNat - 1))) else (bif (((x1.getD 0 0).toNat : Int) == 102) then (k0 12 ((x1.drop 1).take ((x1.length : Int).toNat - 1))) else (bif (((x1.getD 0 0).toNat : Int) == 110) then (k0 10 ((x1.drop 1).take ((x1.length : Int).toNat - 1))) else (bif (((x1.getD 0 0).toNat : Int) == 114) then (k0 13 ((x1.drop 1).take ((x1.length : Int).toNat - 1))) else (bif (((x1.getD 0 0).toNat : Int) == 116) then (k0 9 ((x1.drop 1).take ((x1.length : Int).toNat - 1))) else (bif (((x1.getD 0 0).toNat : Int) == 117) then (q41 ((x1.drop 1).take ((x1.length : Int).toNat - 1)) (fun y3 y4 => k0 y3 y4)) else (k0 (-1) ((x1.drop 1).take ((x1.length : Int).toNat - 1))))))))); bif (((x1.getD 0 0).toNat : Int) == 34) then (j5 (((x1.getD 0 0).toNat : Int) == 34)) else (bif (((x1.getD 0 0).toNat : Int) == 92) then (j5 (((x1.getD 0 0).toNat : Int) == 92)) else (j5 (((x1.getD 0 0).toNat : Int) == 47)))))))
noncomputable def q35 {R : Type} : q35_ty R := fun x1 k0 => q35_X q41 x1 k0
theorem q35_ok {R : Type} (q41 : q41_ty R) (x1 : Str) (k : V → Heap → Option R) : funK tt (q35_E R q41) (q35_T R) false Tryz.f109 (codeOf Tryz.f109) [.ptr 0 0] [.cells [.str x1]] k =
    q35_X q41 x1 (fun q0 q1 => k (.int .i32 q0) [.cells [.str q1]]) := by kernel_rfl
theorem q35_loops (R : Type) : ∀ a ∈ loopsOf (codeOf Tryz.f109), LoopOk tt (q35_E R q41) (q35_T R) 1 a := by
  refine loops_ok 0 (by kernel_rfl) fun i hi => ?_
  omega
theorem q35_S_ok (R : Type) (other : Yard.Spec R) (ho : Yard.Spec.Ok Tryz.prog 109 other) : Yard.Spec.Ok Tryz.prog 109 (specBy q35_p q35_q (q35_rr q35) other) :=
  specBy_ok ho (funK_sound TT mixed (q35_EOk R) (keep := false) rfl rfl rfl rfl 1 (q35_loops R)) fun (x : Pat.dens q35_p) (y : HPat.dens q35_q) k => q35_ok q41 y.1.1 k
/-! ### unicode/utf8.appendRuneNonASCII -/
abbrev q18_ty (R : Type) : Type := (List Int) → Int → ((List Int) → Option R) → Option R
abbrev q18_p : List Pat := [.leaf (.slo (.int .u8) 0), .leaf (.int .i32)]
abbrev q18_q : List HPat := [.tok]
noncomputable def q18_rr {R : Type} (fn : q18_ty R) : Pat.dens q18_p → HPat.dens q18_q → (V → Heap → Option R) → Option R := fun x y k => fn x.1 x.2.1 (fun q0 => k (.sl (.int .u8) q0 (.own 1)) [.dead, .tok])
noncomputable def q18_E (R : Type) : Env R := fun i => match i with
  | _ => none
theorem q18_EOk (R : Type) : EOk Tryz.prog (q18_E R) := by
  intro i b sp h
  unfold q18_E at h
  split at h
  · cases h
noncomputable def q18_T (R : Type) : Nat → Option (Hint × LSpec R) := fun i => match i with
  | _ => none
noncomputable def q18_X {R : Type} (x1 : List Int) (x2 : Int) (k0 : (List Int) → Option R) : Option R :=
  bif (decide ((IntKind.u32.wrap x2) ≤ (2047 : Int))) then (chk (decide ((x1.length + 2) * 1 ≤ 140737488355328)) (k0 ((x1 : List Int) ++ (([(IntKind.u8.wrap ((BitVec.ofInt IntKind.u8.bits 192 ||| BitVec.ofInt IntKind.u8.bits (IntKind.u8.wrap (Int.fdiv x2 (2 ^ (min 6 IntKind.i32.bits))))).toNat : Int)), (IntKind.u8.wrap ((BitVec.ofInt IntKind.u8.bits 128 ||| BitVec.ofInt IntKind.u8.bits (IntKind.u8.wrap ((BitVec.ofInt IntKind.u8.bits (IntKind.u8.wrap x2) &&& BitVec.ofInt IntKind.u8.bits 63).toNat : Int))).toNat : Int))] : List Int) : List Int)))) else (let j6 := fun (z3 : Bool) => bif z3 then (chk (decide ((x1.length + 3) * 1 ≤ 140737488355328)) (k0 ((x1 : List Int) ++ (([(IntKind.u8.wrap ((BitVec.ofInt IntKind.u8.bits 224 ||| BitVec.ofInt IntKind.u8.bits (IntKind.u8.wrap (Int.fdiv x2 (2 ^ (min 12 IntKind.i32.bits))))).toNat : Int)), (IntKind.u8.wrap ((BitVec.ofInt IntKind.u8.bits 128 ||| BitVec.ofInt IntKind.u8.bits (IntKind.u8.wrap ((BitVec.ofInt IntKind.u8.bits (IntKind.u8.wrap (Int.fdiv x2 (2 ^ (min 6 IntKind.i32.bits)))) &&& BitVec.ofInt IntKind.u8.bits 63).toNat : Int))).toNat : Int)), (IntKind.u8.wrap ((BitVec.ofInt IntKind.u8.bits 128 ||| BitVec.ofInt IntKind.u8.bits (IntKind.u8.wrap ((BitVec.ofInt IntKind.u8.bits (IntKind.u8.wrap x2) &&& BitVec.ofInt IntKind.u8.bits 63).toNat : Int))).toNat : Int))] : List Int) : List Int)))) else (let j5 := fun (z4 : Bool) => bif z4 then (chk (decide ((x1.length + 4) * 1 ≤ 140737488355328)) (k0 ((x1 : List Int) ++ (([(IntKind.u8.wrap ((BitVec.ofInt IntKind.u8.bits 240 ||| BitVec.ofInt IntKind.u8.bits (IntKind.u8.wrap (Int.fdiv x2 (2 ^ (min 18 IntKind.i32.bits))))).toNat : Int)), (IntKind.u8.wrap ((BitVec.ofInt IntKind.u8.bits 128 ||| BitVec.ofInt IntKind.u8.bits (IntKind.u8.wrap ((BitVec.ofInt IntKind.u8.bits (IntKind.u8.wrap (Int.fdiv x2 (2 ^ (min 12 IntKind.i32.bits)))) &&& BitVec.ofInt IntKind.u8.bits 63).toNat : Int))).toNat : Int)), (IntKind.u8.wrap ((BitVec.ofInt IntKind.u8.bits 128 ||| BitVec.ofInt IntKind.u8.bits (IntKind.u8.wrap ((BitVec.ofInt IntKind.u8.bits (IntKind.u8.wrap (Int.fdiv x2 (2 ^ (min 6 IntKind.i32.bits)))) &&& BitVec.ofInt IntKind.u8.bits 63).toNat : Int))).toNat : Int)), (IntKind.u8.wrap ((BitVec.ofInt IntKind.u8.bits 128 ||| BitVec.ofInt IntKind.u8.bits (IntKind.u8.wrap ((BitVec.ofInt IntKind.u8.bits (IntKind.u8.wrap x2) &&& BitVec.ofInt IntKind.u8.bits 63).toNat : Int))).toNat : Int))] : List Int) : List Int)))) else (chk (decide ((x1.length + 3) * 1 ≤ 140737488355328)) (k0 ((x1 : List Int) ++ (([239, 191, 189] : List Int) : List Int)))); bif (decide ((IntKind.u32.wrap x2) > (65535 : Int))) then (j5 (decide ((IntKind.u32.wrap x2) ≤ (1114111 : Int)))) else (j5 false)); bif (decide ((IntKind.u32.wrap x2) < (55296 : Int))) then (j6 (decide ((IntKind.u32.wrap x2) < (55296 : Int)))) else (bif (decide ((57343 : Int) < (IntKind.u32.wrap x2))) then (j6 (decide ((IntKind.u32.wrap x2) ≤ (65535 : Int)))) else (j6 false)))
noncomputable def q18 {R : Type} : q18_ty R := fun x1 x2 k0 => q18_X x1 x2 k0
theorem q18_ok {R : Type} (x1 : List Int) (x2 : Int) (k : V → Heap → Option R) : funK tt (q18_E R) (q18_T R) true Tryz.f113 (codeOf Tryz.f113) [.sl (.int .u8) x1 (.own 0), .int .i32 x2] [.tok] k =
    q18_X x1 x2 (fun q0 => k (.sl (.int .u8) q0 (.own 1)) [.dead, .tok]) := by kernel_rfl
theorem q18_loops (R : Type) : ∀ a ∈ loopsOf (codeOf Tryz.f113), LoopOk tt (q18_E R) (q18_T R) 1 a := by
  refine loops_ok 0 (by kernel_rfl) fun i hi => ?_
  omega
theorem q18_S_ok (R : Type) (other : Yard.Spec R) (ho : Yard.Spec.Ok Tryz.prog 113 other) : Yard.Spec.Ok Tryz.prog 113 (specBy q18_p q18_q (q18_rr q18) other) :=
  specBy_ok ho (funK_sound TT mixed (q18_EOk R) (keep := true) rfl rfl rfl rfl 1 (q18_loops R)) fun (x : Pat.dens q18_p) (y : HPat.dens q18_q) k => q18_ok x.1 x.2.1 k
/-! ### unicode/utf8.AppendRune -/
abbrev q29_ty (R : Type) : Type := (List Int) → Int → ((List Int) → Option R) → Option R
abbrev q29_p : List Pat := [.leaf (.slo (.int .u8) 0), .leaf (.int .i32)]
abbrev q29_q : List HPat := [.tok]
noncomputable def q29_rr {R : Type} (fn : q29_ty R) : Pat.dens q29_p → HPat.dens q29_q → (V → Heap → Option R) → Option R := fun x y k => fn x.1 x.2.1 (fun q0 => k (.sl (.int .u8) q0 (.own 1)) [.dead, .tok])
noncomputable def q29_E (R : Type) (q18 : q18_ty R) : Env R := fun i => match i with
  | 113 => some (false, (specBy q18_p q18_q (q18_rr q18) specNo))
  | _ => none
theorem q29_EOk (R : Type) : EOk Tryz.prog (q29_E R q18) := by
  intro i b sp h
  unfold q29_E at h
  split at h
  · cases h; exact ⟨(q18_S_ok R _ (specNo_ok _)), fun _ h => nomatch h⟩
  · cases h
noncomputable def q29_T (R : Type) : Nat → Option (Hint × LSpec R) := fun i => match i with
  | _ => none
noncomputable def q29_X {R : Type} (q18 : q18_ty R) (x1 : List Int) (x2 : Int) (k0 : (List Int) → Option R) : Option R :=
  bif (decide ((IntKind.u32.wrap x2) ≤ (127 : Int))) then (chk (decide ((x1.length + 1) * 1 ≤ 140737488355328)) (k0 ((x1 : List Int) ++ (([(IntKind.u8.wrap x2)] : List Int) : List Int)))) else (q18 x1 x2 (fun y3 => k0 y3))
noncomputable def q29 {R : Type} : q29_ty R := fun x1 x2 k0 => q29_X q18 x1 x2 k0
theorem q29_ok {R : Type} (q18 : q18_ty R) (x1 : List Int) (x2 : Int) (k : V → Heap → Option R) : funK tt (q29_E R q18) (q29_T R) true Tryz.f74 (codeOf Tryz.f74) [.sl (.int .u8) x1 (.own 0), .int .i32 x2] [.tok] k =
    q29_X q18 x1 x2 (fun q0 => k (.sl (.int .u8) q0 (.own 1)) [.dead, .tok]) := by kernel_rfl
theorem q29_loops (R : Type) : ∀ a ∈ loopsOf (codeOf Tryz.f74), LoopOk tt (q29_E R q18) (q29_T R) 1 a := by
  refine loops_ok 0 (by kernel_rfl) fun i hi => ?_
  omega
theorem q29_S_ok (R : Type) (other : Yard.Spec R) (ho : Yard.Spec.Ok Tryz.prog 74 other) : Yard.Spec.Ok Tryz.prog 74 (specBy q29_p q29_q (q29_rr q29) other) :=
  specBy_ok ho (funK_sound TT mixed (q29_EOk R) (keep := true) rfl rfl rfl rfl 1 (q29_loops R)) fun (x : Pat.dens q29_p) (y : HPat.dens q29_q) k => q29_ok q18 x.1 x.2.1 k
end Go.Proofs.YtmlkkgfenfdndaaGreatDoor
/-
  Functions of the program as pure Lean functions, and the ties; printed by wip/tools/emit.py.
-/
set_option maxRecDepth 100000
namespace Go.Proofs.YtmlkkgfenfdndaaGreatDoor
open Go Go.Yard
/-! ### (*strings.Builder).WriteRune -/
abbrev q24_ty (R : Type) : Type := Int → (List Int) → (Int → (List Int) → Option R) → Option R
abbrev q24_p : List Pat := [.leaf (.ptr 0 0), .leaf (.int .i32)]
abbrev q24_q : List HPat := [.bld (.slo (.int .u8) 1), .tok]
noncomputable def q24_rr {R : Type} (fn : q24_ty R) : Pat.dens q24_p → HPat.dens q24_q → (V → Heap → Option R) → Option R := fun x y k => fn x.2.1 y.1 (fun q0 q1 => k (.tuple [.int .i64 q0, .niliface]) [.bld (.sl (.int .u8) q1 (.own 2)), .dead, .tok])
noncomputable def q24_E (R : Type) (q29 : q29_ty R) : Env R := fun i => match i with
  | 73 => some (false, (bcc_S R))
  | 74 => some (false, (specBy q29_p q29_q (q29_rr q29) specNo))
  | _ => none
theorem q24_EOk (R : Type) : EOk Tryz.prog (q24_E R q29) := by
  intro i b sp h
  unfold q24_E at h
  split at h
  · cases h; exact ⟨(bcc_is), fun _ h => nomatch h⟩
  · cases h; exact ⟨(q29_S_ok R _ (specNo_ok _)), fun _ h => nomatch h⟩
  · cases h
noncomputable def q24_T (R : Type) : Nat → Option (Hint × LSpec R) := fun i => match i with
  | _ => none
noncomputable def q24_X {R : Type} (q29 : q29_ty R) (x1 : Int) (x2 : List Int) (k0 : Int → (List Int) → Option R) : Option R :=
  q29 x2 x1 (fun y3 => k0 (IntKind.i64.wrap ((y3.length : Int) - (x2.length : Int))) y3)
noncomputable def q24 {R : Type} : q24_ty R := fun x1 x2 k0 => q24_X q29 x1 x2 k0
theorem q24_ok {R : Type} (q29 : q29_ty R) (x1 : Int) (x2 : List Int) (k : V → Heap → Option R) : funK tt (q24_E R q29) (q24_T R) false Tryz.f53 (codeOf Tryz.f53) [.ptr 0 0, .int .i32 x1] [.bld (.sl (.int .u8) x2 (.own 1)), .tok] k =
    q24_X q29 x1 x2 (fun q0 q1 => k (.tuple [.int .i64 q0, .niliface]) [.bld (.sl (.int .u8) q1 (.own 2)), .dead, .tok]) := by kernel_rfl
theorem q24_loops (R : Type) : ∀ a ∈ loopsOf (codeOf Tryz.f53), LoopOk tt (q24_E R q29) (q24_T R) 2 a := by
  refine loops_ok 0 (by kernel_rfl) fun i hi => ?_
  omega
theorem q24_S_ok (R : Type) (other : Yard.Spec R) (ho : Yard.Spec.Ok Tryz.prog 53 other) : Yard.Spec.Ok Tryz.prog 53 (specBy q24_p q24_q (q24_rr q24) other) :=
  specBy_ok ho (funK_sound TT mixed (q24_EOk R) (keep := false) rfl rfl rfl rfl 2 (q24_loops R)) fun (x : Pat.dens q24_p) (y : HPat.dens q24_q) k => q24_ok q29 x.2.1 y.1 k
/-! ### (*humpyard/quote.reader).plain -/
abbrev q39_ty (R : Type) : Type := Str → (Int → Str → Option R) → Option R
abbrev q39_p : List Pat := [.leaf (.ptr 0 0)]
abbrev q39_q : List HPat := [.cells [.str]]
noncomputable def q39_rr {R : Type} (fn : q39_ty R) : Pat.dens q39_p → HPat.dens q39_q → (V → Heap → Option R) → Option R := fun x y k => fn y.1.1 (fun q0 q1 => k (.int .i32 q0) [.cells [.str q1]])
noncomputable def q39_E (R : Type) : Env R := fun i => match i with
  | 130 => some (true, (dec_S R))
  | _ => none
theorem q39_EOk (R : Type) : EOk Tryz.prog (q39_E R) := by
  intro i b sp h
  unfold q39_E at h
  split at h
  · cases h; exact ⟨(dec_ok), fun h => nomatch h⟩
  · cases h
noncomputable def q39_T (R : Type) : Nat → Option (Hint × LSpec R) := fun i => match i with
  | _ => none
noncomputable def q39_X {R : Type} (x1 : Str) (k0 : Int → Str → Option R) : Option R :=
  let j3 := chk (decide ((0 : Int) ≤ (x1.length : Int)) && decide ((x1.length : Int) ≤ x1.length)) (chk (decide ((0 : Int) ≤ ((decRune x1).2 : Int)) && decide (((decRune x1).2 : Int) ≤ (x1.length : Int))) (k0 ((decRune x1).1 : Int) ((x1.drop ((decRune x1).2 : Int).toNat).take ((x1.length : Int).toNat - ((decRune x1).2 : Int).toNat)))); bif (((decRune x1).1 : Int) == 65533) then (bif (decide (((decRune x1).2 : Int) < (2 : Int))) then (k0 (-1) x1) else (bif (decide (((decRune x1).1 : Int) < (32 : Int))) then (k0 (-1) x1) else (j3))) else (bif (decide (((decRune x1).1 : Int) < (32 : Int))) then (k0 (-1) x1) else (j3))
noncomputable def q39 {R : Type} : q39_ty R := fun x1 k0 => q39_X x1 k0
theorem q39_ok {R : Type} (x1 : Str) (k : V → Heap → Option R) : funK tt (q39_E R) (q39_T R) false Tryz.f108 (codeOf Tryz.f108) [.ptr 0 0] [.cells [.str x1]] k =
    q39_X x1 (fun q0 q1 => k (.int .i32 q0) [.cells [.str q1]]) := by kernel_rfl
theorem q39_loops (R : Type) : ∀ a ∈ loopsOf (codeOf Tryz.f108), LoopOk tt (q39_E R) (q39_T R) 1 a := by
  refine loops_ok 0 (by kernel_rfl) fun i hi => ?_
  omega
theorem q39_S_ok (R : Type) (other : Yard.Spec R) (ho : Yard.Spec.Ok Tryz.prog 108 other) : Yard.Spec.Ok Tryz.prog 108 (specBy q39_p q39_q (q39_rr q39) other) :=
  specBy_ok ho (funK_sound TT mixed (q39_EOk R) (keep := false) rfl rfl rfl rfl 1 (q39_loops R)) fun (x : Pat.dens q39_p) (y : HPat.dens q39_q) k => q39_ok y.1.1 k
/-! ### humpyard/quote.Unquote -/
abbrev q62_ty (R : Type) : Type := Str → (Str → Int → Bool → Option R) → Option R
abbrev q62_p : List Pat := [.leaf (.str)]
abbrev q62_q : List HPat := []
noncomputable def q62_rr {R : Type} (fn : q62_ty R) : Pat.dens q62_p → HPat.dens q62_q → (V → Heap → Option R) → Option R := fun x y k => fn x.1 (fun q0 q1 q2 => k (.tuple [.str q0, .int .i64 q1, .bool q2]) [])
abbrev q62_5_0_ty (R : Type) : Type := Nat → Str → Str → (List Int) → (Str → Str → (List Int) → Option R) → (Str → Str → Int → Bool → Str → (List Int) → Option R) → Option R
noncomputable def q62_E (R : Type) (q24 : q24_ty R) (q43 : q43_ty R) (q39 : q39_ty R) (q35 : q35_ty R) : Env R := fun i => match i with
  | 53 => some (false, (specBy q24_p q24_q (q24_rr q24) specNo))
  | 39 => some (false, (bstr_S R))
  | 107 => some (false, (specBy q43_p q43_q (q43_rr q43) specNo))
  | 108 => some (false, (specBy q39_p q39_q (q39_rr q39) specNo))
  | 109 => some (false, (specBy q35_p q35_q (q35_rr q35) specNo))
  | _ => none
theorem q62_EOk (R : Type) : EOk Tryz.prog (q62_E R q24 q43 q39 q35) := by
  intro i b sp h
  unfold q62_E at h
  split at h
  · cases h; exact ⟨(q24_S_ok R _ (specNo_ok _)), fun _ h => nomatch h⟩
  · cases h; exact ⟨(bstr_is), fun _ _ => bstr_soft⟩
  · cases h; exact ⟨(q43_S_ok R _ (specNo_ok _)), fun _ h => nomatch h⟩
  · cases h; exact ⟨(q39_S_ok R _ (specNo_ok _)), fun _ h => nomatch h⟩
  · cases h; exact ⟨(q35_S_ok R _ (specNo_ok _)), fun _ h => nomatch h⟩
  · cases h
noncomputable def q62_5_0_B {R : Type} (q24 : q24_ty R) (q43 : q43_ty R) (q39 : q39_ty R) (q35 : q35_ty R) (rec' : Str → Str → (List Int) → Option R) (x4 : Str) (x5 : Str) (x6 : List Int) (e0 : Str → Str → (List Int) → Option R) (e1 : Str → Str → Int → Bool → Str → (List Int) → Option R) : Option R :=
  q43 ([34] : Str) x5 (fun y7 y8 => bif (!y7) then (q43 ([92] : Str) y8 (fun y9 y10 => bif y9 then (q35 y10 (fun y11 y12 => bif (decide (y11 < (0 : Int))) then (e1 x4 ([] : Str) 0 false y12 x6) else (q24 y11 x6 (fun y13 y14 => rec' x4 y12 y14)))) else (q39 y10 (fun y15 y16 => bif (decide (y15 < (0 : Int))) then (e1 x4 ([] : Str) 0 false y16 x6) else (q24 y15 x6 (fun y17 y18 => rec' x4 y16 y18)))))) else (e0 x4 y8 x6))
noncomputable def q62_5_0_L {R : Type} : q62_5_0_ty R
  | 0, _, _, _, _, _ => none
  | n + 1, x0', x1', x2', e0, e1 => q62_5_0_B q24 q43 q39 q35 (fun x0' x1' x2' => q62_5_0_L n x0' x1' x2' e0 e1) x0' x1' x2' e0 e1
noncomputable def q62_5_0_h : Hint := { live := [0, 5, 6], own := [], rows := [], cells := [(1, 1, (.int .u8), false)], drop := [], out := [0, 2, 3, 4, 5, 6] }
abbrev q62_5_0_D : Type := Str × Str × (List Int)
noncomputable def q62_5_0_enc : q62_5_0_D → St := fun d => ⟨[.str d.1, .undef, .undef, .undef, .undef, .ptr 0 0, .ptr 1 0, .undef, .undef, .undef, .undef, .undef, .undef, .undef, .undef, .undef, .undef, .undef, .undef, .undef, .undef, .undef, .undef, .undef, .undef, .undef, .undef, .undef, .undef, .undef, .undef, .undef, .undef, .undef, .undef, .undef, .undef, .undef, .undef], [.cells [.str d.2.1], .bld (.sl (.int .u8) d.2.2 (.own 2)), .tok]⟩
noncomputable def q62_5_0_x0 {R : Type} (K : Ex → St → Option R) (q0 : Str) (q1 : Str) (q2 : List Int) : Option R := K (.exit 0) ⟨[.str q0, .undef, .undef, .undef, .undef, .ptr 0 0, .ptr 1 0, .undef, .undef, .undef, .undef, .undef, .undef, .undef, .undef, .undef, .undef, .undef, .undef, .undef, .undef, .undef, .undef, .undef, .undef, .undef, .undef, .undef, .undef, .undef, .undef, .undef, .undef, .undef, .undef, .undef, .undef, .undef, .undef], [.cells [.str q1], .bld (.sl (.int .u8) q2 (.own 2)), .tok]⟩
noncomputable def q62_5_0_x1 {R : Type} (K : Ex → St → Option R) (q0 : Str) (q1 : Str) (q2 : Int) (q3 : Bool) (q4 : Str) (q5 : List Int) : Option R := K (.ret) ⟨[.str q0, .undef, .str q1, .int .i64 q2, .bool q3, .ptr 0 0, .ptr 1 0, .undef, .undef, .undef, .undef, .undef, .undef, .undef, .undef, .undef, .undef, .undef, .undef, .undef, .undef, .undef, .undef, .undef, .undef, .undef, .undef, .undef, .undef, .undef, .undef, .undef, .undef, .undef, .undef, .undef, .undef, .undef, .undef], [.cells [.str q4], .bld (.sl (.int .u8) q5 (.own 2)), .tok]⟩
noncomputable def q62_5_0_s {R : Type} (q24 : q24_ty R) (q43 : q43_ty R) (q39 : q39_ty R) (q35 : q35_ty R) (K : Ex → St → Option R) (rc : q62_5_0_D → Option R) (d : q62_5_0_D) : Option R := q62_5_0_B q24 q43 q39 q35 (fun z0 z1 z2 => rc (z0, z1, z2)) d.1 d.2.1 d.2.2 (q62_5_0_x0 K) (q62_5_0_x1 K)
noncomputable def q62_5_0_A {R : Type} (K : Ex → St → Option R) (n : Nat) (d : q62_5_0_D) : Option R := q62_5_0_L n d.1 d.2.1 d.2.2 (q62_5_0_x0 K) (q62_5_0_x1 K)
abbrev q62_5_0_p : List Pat := [.leaf (.str), .leaf (.undef), .leaf (.undef), .leaf (.undef), .leaf (.undef), .leaf (.ptr 0 0), .leaf (.ptr 1 0), .leaf (.undef), .leaf (.undef), .leaf (.undef), .leaf (.undef), .leaf (.undef), .leaf (.undef), .leaf (.undef), .leaf (.undef), .leaf (.undef), .leaf (.undef), .leaf (.undef), .leaf (.undef), .leaf (.undef), .leaf (.undef), .leaf (.undef), .leaf (.undef), .leaf (.undef), .leaf (.undef), .leaf (.undef), .leaf (.undef), .leaf (.undef), .leaf (.undef), .leaf (.undef), .leaf (.undef), .leaf (.undef), .leaf (.undef), .leaf (.undef), .leaf (.undef), .leaf (.undef), .leaf (.undef), .leaf (.undef), .leaf (.undef)]
abbrev q62_5_0_q : List HPat := [.cells [.str], .bld (.slo (.int .u8) 2), .tok]
noncomputable def q62_5_0_f (x : Pat.dens q62_5_0_p) (y : HPat.dens q62_5_0_q) : Nat := (List.length x.1 + List.length y.1.1 + List.length y.2.1 + 64)
noncomputable def q62_5_0_d (x : Pat.dens q62_5_0_p) (y : HPat.dens q62_5_0_q) : q62_5_0_D := (x.1, y.1.1, y.2.1)
noncomputable def q62_5_0_rr {R : Type} (L : q62_5_0_ty R) : Pat.dens q62_5_0_p → HPat.dens q62_5_0_q → (Ex → St → Option R) → Option R := fun x y K => L (q62_5_0_f x y) x.1 y.1.1 y.2.1 (q62_5_0_x0 K) (q62_5_0_x1 K)
noncomputable def q62_T (R : Type) (q62_5_0_L : q62_5_0_ty R) : Nat → Option (Hint × LSpec R) := fun i => match i with
  | 5 => some (q62_5_0_h, (loopBy q62_5_0_p q62_5_0_q (q62_5_0_rr q62_5_0_L) loopNo))
  | _ => none
theorem q62_5_0_B_ok {R : Type} (q24 : q24_ty R) (q43 : q43_ty R) (q39 : q39_ty R) (q35 : q35_ty R) (q62_5_0_L : q62_5_0_ty R) (K : Ex → St → Option R) (rc : St → Option R) (d : q62_5_0_D) : roundOf tt (q62_E R q24 q43 q39 q35) (q62_T R q62_5_0_L) 0 ((loopsOf (codeOf Tryz.f70)).getD 0 .skip) q62_5_0_h (q62_5_0_enc d) rc K = q62_5_0_s q24 q43 q39 q35 K (fun d => rc (q62_5_0_enc d)) d := by kernel_rfl
theorem q62_5_0_A_succ {R : Type} (K : Ex → St → Option R) (n : Nat) (d : q62_5_0_D) : q62_5_0_A K (n + 1) d = q62_5_0_s q24 q43 q39 q35 K (q62_5_0_A K n) d := by kernel_rfl
theorem q62_5_0_A_zero {R : Type} (K : Ex → St → Option R) (d : q62_5_0_D) : q62_5_0_A K 0 d = none := by kernel_rfl
theorem q62_5_0_e_ok (x : Pat.dens q62_5_0_p) (y : HPat.dens q62_5_0_q) : (⟨Pat.encL q62_5_0_p x, HPat.encL q62_5_0_q y⟩ : St) = q62_5_0_enc (q62_5_0_d x y) := by kernel_rfl
theorem q62_5_0_r_ok {R : Type} (x : Pat.dens q62_5_0_p) (y : HPat.dens q62_5_0_q) (K : Ex → St → Option R) : q62_5_0_rr (q62_5_0_L) x y K = q62_5_0_A K (q62_5_0_f x y) (q62_5_0_d x y) := by kernel_rfl
theorem q62_5_0_ok {R : Type} (other : LSpec R) (ho : LsOk tt (q62_E R q24 q43 q39 q35) (q62_T R q62_5_0_L) 0 ((loopsOf (codeOf Tryz.f70)).getD 0 .skip) q62_5_0_h other) : LsOk tt (q62_E R q24 q43 q39 q35) (q62_T R q62_5_0_L) 0 ((loopsOf (codeOf Tryz.f70)).getD 0 .skip) q62_5_0_h (loopBy q62_5_0_p q62_5_0_q (q62_5_0_rr (q62_5_0_L)) other) :=
  loopBy_tie (A := q62_5_0_A) ho (loop_tie q62_5_0_enc (q62_5_0_s q24 q43 q39 q35) (q62_5_0_A) (q62_5_0_A_zero) (q62_5_0_B_ok q24 q43 q39 q35 q62_5_0_L) (q62_5_0_A_succ)) q62_5_0_f q62_5_0_d q62_5_0_e_ok (q62_5_0_r_ok)
noncomputable def q62_X {R : Type} (q43 : q43_ty R) (q62_5_0_L : q62_5_0_ty R) (x1 : Str) (k0 : Str → Int → Bool → Option R) : Option R :=
  q43 ([34] : Str) x1 (fun y2 y3 => bif (!y2) then (k0 ([] : Str) 0 false) else (q62_5_0_L (List.length x1 + List.length y3 + List.length ([] : List Int) + 64) x1 y3 ([] : List Int) (fun y19 y20 y21 => k0 (bstr y21) (IntKind.i64.wrap ((y19.length : Int) - (y20.length : Int))) true) (fun y22 y23 y24 y25 y26 y27 => k0 y23 y24 y25)))
noncomputable def q62 {R : Type} : q62_ty R := fun x1 k0 => q62_X q43 q62_5_0_L x1 k0
theorem q62_ok {R : Type} (q24 : q24_ty R) (q43 : q43_ty R) (q39 : q39_ty R) (q35 : q35_ty R) (q62_5_0_L : q62_5_0_ty R) (x1 : Str) (k : V → Heap → Option R) : funK tt (q62_E R q24 q43 q39 q35) (q62_T R q62_5_0_L) false Tryz.f70 (codeOf Tryz.f70) [.str x1] [] k =
    q62_X q43 q62_5_0_L x1 (fun q0 q1 q2 => k (.tuple [.str q0, .int .i64 q1, .bool q2]) []) := by kernel_rfl
theorem q62_loops (R : Type) : ∀ a ∈ loopsOf (codeOf Tryz.f70), LoopOk tt (q62_E R q24 q43 q39 q35) (q62_T R q62_5_0_L) 0 a := by
  refine loops_ok 1 (by kernel_rfl) fun i hi => ?_
  match i, hi with
  | 0, _ => exact loopOk_some (by kernel_rfl) (q62_5_0_ok _ loopNo_ok)
  | n + 1, hi => omega
theorem q62_S_ok (R : Type) (other : Yard.Spec R) (ho : Yard.Spec.Ok Tryz.prog 70 other) : Yard.Spec.Ok Tryz.prog 70 (specBy q62_p q62_q (q62_rr q62) other) :=
  specBy_ok ho (funK_sound TT mixed (q62_EOk R) (keep := false) rfl rfl rfl rfl 0 (q62_loops R)) fun (x : Pat.dens q62_p) (y : HPat.dens q62_q) k => q62_ok q24 q43 q39 q35 q62_5_0_L x.1 k
/-! ### humpyard/lexer.next -/
abbrev q75_ty (R : Type) : Type := Str → (Token → Int → Option R) → Option R
abbrev q75_p : List Pat := [.leaf (.str)]
abbrev q75_q : List HPat := []
noncomputable def q75_rr {R : Type} (fn : q75_ty R) : Pat.dens q75_p → HPat.dens q75_q → (V → Heap → Option R) → Option R := fun x y k => fn x.1 (fun q0 q1 => k (.tuple [.agg [.int .i64 q0.kind, .str q0.text, .int .i64 q0.num.mant, .int .i64 q0.num.exp, .int .i64 q0.at_], .int .i64 q1]) [])
noncomputable def q75_E (R : Type) (q62 : q62_ty R) (q61 : q61_ty R) (q66 : q66_ty R) : Env R := fun i => match i with
  | 70 => some (true, (specBy q62_p q62_q (q62_rr q62) specNo))
  | 69 => some (true, (specBy q61_p q61_q (q61_rr q61) specNo))
  | 71 => some (true, (idx_S R))
  | 47 => some (true, (specBy q66_p q66_q (q66_rr q66) specNo))
  | _ => none
theorem q75_EOk (R : Type) : EOk Tryz.prog (q75_E R q62 q61 q66) := by
  intro i b sp h
  unfold q75_E at h
  split at h
  · cases h; exact ⟨(q62_S_ok R _ (specNo_ok _)), fun h => nomatch h⟩
  · cases h; exact ⟨(q61_S_ok R _ (specNo_ok _)), fun h => nomatch h⟩
  · cases h; exact ⟨(idx_ok), fun h => nomatch h⟩
  · cases h; exact ⟨(q66_S_ok R _ (specNo_ok _)), fun h => nomatch h⟩
  · cases h
noncomputable def q75_T (R : Type) : Nat → Option (Hint × LSpec R) := fun i => match i with
  | _ => none
noncomputable def q75_X {R : Type} (q62 : q62_ty R) (q61 : q61_ty R) (q66 : q66_ty R) (x1 : Str) (k0 : Token → Int → Option R) : Option R :=
  chk (decide ((0 : Int) < x1.length)) (let j23 := q66 x1 ([97, 98, 99, 100, 101, 102, 103, 104, 105, 106, 107, 108, 109, 110, 111, 112, 113, 114, 115, 116, 117, 118, 119, 120, 121, 122] : Str) (fun y21 => bif (y21 == ([116, 114, 117, 101] : Str)) then (k0 (⟨4, y21, ⟨0, 0⟩, 0⟩ : Token) (y21.length : Int)) else (bif (y21 == ([102, 97, 108, 115, 101] : Str)) then (k0 (⟨4, y21, ⟨0, 0⟩, 0⟩ : Token) (y21.length : Int)) else (bif (!(y21 == ([110, 117, 108, 108] : Str))) then (k0 (⟨0, ([] : Str), ⟨0, 0⟩, 0⟩ : Token) 0) else (k0 (⟨4, y21, ⟨0, 0⟩, 0⟩ : Token) (y21.length : Int))))); bif (((x1.getD 0 0).toNat : Int) == 45) then (q66 x1 ([48, 49, 50, 51, 52, 53, 54, 55, 56, 57, 43, 45, 46, 101, 69] : Str) (fun y6 => q61 y6 (fun y7 y8 => bif (!y8) then (k0 (⟨0, ([] : Str), ⟨0, 0⟩, 0⟩ : Token) 0) else (k0 (⟨3, y6, ⟨y7.mant, y7.exp⟩, 0⟩ : Token) (y6.length : Int))))) else (bif (decide (((x1.getD 0 0).toNat : Int) ≥ (48 : Int))) then (bif (decide (((x1.getD 0 0).toNat : Int) ≤ (57 : Int))) then (q66 x1 ([48, 49, 50, 51, 52, 53, 54, 55, 56, 57, 43, 45, 46, 101, 69] : Str) (fun y9 => q61 y9 (fun y10 y11 => bif (!y11) then (k0 (⟨0, ([] : Str), ⟨0, 0⟩, 0⟩ : Token) 0) else (k0 (⟨3, y9, ⟨y10.mant, y10.exp⟩, 0⟩ : Token) (y9.length : Int))))) else (bif (((x1.getD 0 0).toNat : Int) == 34) then (q62 x1 (fun y15 y16 y17 => bif (!y17) then (k0 (⟨0, ([] : Str), ⟨0, 0⟩, 0⟩ : Token) 0) else (k0 (⟨2, y15, ⟨0, 0⟩, 0⟩ : Token) y16))) else (bif (decide ((idxByte ([123, 125, 91, 93, 44, 58] : Str) ((x1.getD 0 0).toNat : Int)) ≥ (0 : Int))) then (chk (decide ((1 : Int) ≤ x1.length)) (k0 (⟨1, ((x1.drop 0).take (1 - 0)), ⟨0, 0⟩, 0⟩ : Token) 1)) else (j23)))) else (bif (((x1.getD 0 0).toNat : Int) == 34) then (q62 x1 (fun y18 y19 y20 => bif (!y20) then (k0 (⟨0, ([] : Str), ⟨0, 0⟩, 0⟩ : Token) 0) else (k0 (⟨2, y18, ⟨0, 0⟩, 0⟩ : Token) y19))) else (bif (decide ((idxByte ([123, 125, 91, 93, 44, 58] : Str) ((x1.getD 0 0).toNat : Int)) ≥ (0 : Int))) then (chk (decide ((1 : Int) ≤ x1.length)) (k0 (⟨1, ((x1.drop 0).take (1 - 0)), ⟨0, 0⟩, 0⟩ : Token) 1)) else (j23)))))
noncomputable def q75 {R : Type} : q75_ty R := fun x1 k0 => q75_X q62 q61 q66 x1 k0
theorem q75_ok {R : Type} (q62 : q62_ty R) (q61 : q61_ty R) (q66 : q66_ty R) (x1 : Str) (k : V → Heap → Option R) : funK tt (q75_E R q62 q61 q66) (q75_T R) false Tryz.f48 (codeOf Tryz.f48) [.str x1] [] k =
    q75_X q62 q61 q66 x1 (fun q0 q1 => k (.tuple [.agg [.int .i64 q0.kind, .str q0.text, .int .i64 q0.num.mant, .int .i64 q0.num.exp, .int .i64 q0.at_], .int .i64 q1]) []) := by kernel_rfl
theorem q75_loops (R : Type) : ∀ a ∈ loopsOf (codeOf Tryz.f48), LoopOk tt (q75_E R q62 q61 q66) (q75_T R) 0 a := by
  refine loops_ok 0 (by kernel_rfl) fun i hi => ?_
  omega
theorem q75_S_ok (R : Type) (other : Yard.Spec R) (ho : Yard.Spec.Ok Tryz.prog 48 other) : Yard.Spec.Ok Tryz.prog 48 (specBy q75_p q75_q (q75_rr q75) other) :=
  specBy_ok ho (funK_sound TT mixed (q75_EOk R) (keep := false) rfl rfl rfl rfl 0 (q75_loops R)) fun (x : Pat.dens q75_p) (y : HPat.dens q75_q) k => q75_ok q62 q61 q66 x.1 k
/-! ### humpyard/lexer.Scan -/
abbrev q76_ty (R : Type) : Type := Str → ((List Token) → Int → Int → Option R) → Option R
abbrev q76_p : List Pat := [.leaf (.str)]
abbrev q76_q : List HPat := []
noncomputable def q76_rr {R : Type} (fn : q76_ty R) : Pat.dens q76_p → HPat.dens q76_q → (V → Heap → Option R) → Option R := fun x y k => fn x.1 (fun q0 q1 q2 => k (.tuple [.sl .token q0 .no, .int .i64 q1, .int .i64 q2]) [])
abbrev q76_3_0_ty (R : Type) : Type := Nat → Str → (List Token) → Int → ((List Token) → Int → Int → Option R) → (Int → Int → Option R) → Option R
noncomputable def q76_E (R : Type) (q75 : q75_ty R) (q66 : q66_ty R) : Env R := fun i => match i with
  | 48 => some (true, (specBy q75_p q75_q (q75_rr q75) specNo))
  | 47 => some (true, (specBy q66_p q66_q (q66_rr q66) specNo))
  | _ => none
theorem q76_EOk (R : Type) : EOk Tryz.prog (q76_E R q75 q66) := by
  intro i b sp h
  unfold q76_E at h
  split at h
  · cases h; exact ⟨(q75_S_ok R _ (specNo_ok _)), fun h => nomatch h⟩
  · cases h; exact ⟨(q66_S_ok R _ (specNo_ok _)), fun h => nomatch h⟩
  · cases h
noncomputable def q76_3_0_B {R : Type} (q75 : q75_ty R) (q66 : q66_ty R) (rec' : Str → (List Token) → Int → Option R) (x2 : Str) (x3 : List Token) (x4 : Int) (e0 : (List Token) → Int → Int → Option R) (e1 : Int → Int → Option R) : Option R :=
  chk (decide ((0 : Int) ≤ (x2.length : Int)) && decide ((x2.length : Int) ≤ x2.length)) (chk (decide ((0 : Int) ≤ x4) && decide (x4 ≤ (x2.length : Int))) (q66 ((x2.drop x4.toNat).take ((x2.length : Int).toNat - x4.toNat)) ([32, 9, 10, 13] : Str) (fun y5 => bif ((IntKind.i64.wrap (x4 + (y5.length : Int))) == (x2.length : Int)) then (chk (decide ((x3.length + 1) * 48 ≤ 140737488355328)) (e0 (x3 ++ ([(⟨5, ([] : Str), ⟨0, 0⟩, (IntKind.i64.wrap (x4 + (y5.length : Int)))⟩ : Token)] : List Token)) 0 0)) else (chk (decide ((0 : Int) ≤ (x2.length : Int)) && decide ((x2.length : Int) ≤ x2.length)) (chk (decide ((0 : Int) ≤ (IntKind.i64.wrap (x4 + (y5.length : Int)))) && decide ((IntKind.i64.wrap (x4 + (y5.length : Int))) ≤ (x2.length : Int))) (q75 ((x2.drop (IntKind.i64.wrap (x4 + (y5.length : Int))).toNat).take ((x2.length : Int).toNat - (IntKind.i64.wrap (x4 + (y5.length : Int))).toNat)) (fun y6 y7 => bif (y7 == 0) then (e1 30 (IntKind.i64.wrap (x4 + (y5.length : Int)))) else (chk (decide ((x3.length + 1) * 48 ≤ 140737488355328)) (rec' x2 (x3 ++ ([(⟨y6.kind, y6.text, ⟨y6.num.mant, y6.num.exp⟩, (IntKind.i64.wrap (x4 + (y5.length : Int)))⟩ : Token)] : List Token)) (IntKind.i64.wrap ((IntKind.i64.wrap (x4 + (y5.length : Int))) + y7)))))))))))
noncomputable def q76_3_0_L {R : Type} : q76_3_0_ty R
  | 0, _, _, _, _, _ => none
  | n + 1, x0', x1', x2', e0, e1 => q76_3_0_B q75 q66 (fun x0' x1' x2' => q76_3_0_L n x0' x1' x2' e0 e1) x0' x1' x2' e0 e1
noncomputable def q76_3_0_h : Hint := { live := [0, 2, 4], own := [(2, .token)], rows := [], cells := [], drop := [], out := [2, 3, 4] }
abbrev q76_3_0_D : Type := Str × (List Token) × Int
noncomputable def q76_3_0_enc : q76_3_0_D → St := fun d => ⟨[.str d.1, .undef, .sl .token d.2.1 (.own 0), .undef, .int .i64 d.2.2, .undef, .undef, .undef, .undef, .undef, .undef, .undef, .undef, .undef, .undef, .undef, .undef, .undef, .undef, .undef, .undef, .undef, .undef, .undef, .undef, .undef, .undef, .undef, .undef, .undef, .undef, .undef, .undef, .undef, .undef, .undef, .undef, .undef, .undef, .undef, .undef, .undef, .undef, .undef, .undef], [.tok]⟩
noncomputable def q76_3_0_x0 {R : Type} (K : Ex → St → Option R) (q0 : List Token) (q1 : Int) (q2 : Int) : Option R := K (.ret) ⟨[.undef, .undef, .sl .token q0 (.own 0), .int .i64 q1, .int .i64 q2, .undef, .undef, .undef, .undef, .undef, .undef, .undef, .undef, .undef, .undef, .undef, .undef, .undef, .undef, .undef, .undef, .undef, .undef, .undef, .undef, .undef, .undef, .undef, .undef, .undef, .undef, .undef, .undef, .undef, .undef, .undef, .undef, .undef, .undef, .undef, .undef, .undef, .undef, .undef, .undef], [.tok]⟩
noncomputable def q76_3_0_x1 {R : Type} (K : Ex → St → Option R) (q0 : Int) (q1 : Int) : Option R := K (.ret) ⟨[.undef, .undef, .nilsl, .int .i64 q0, .int .i64 q1, .undef, .undef, .undef, .undef, .undef, .undef, .undef, .undef, .undef, .undef, .undef, .undef, .undef, .undef, .undef, .undef, .undef, .undef, .undef, .undef, .undef, .undef, .undef, .undef, .undef, .undef, .undef, .undef, .undef, .undef, .undef, .undef, .undef, .undef, .undef, .undef, .undef, .undef, .undef, .undef], []⟩
noncomputable def q76_3_0_s {R : Type} (q75 : q75_ty R) (q66 : q66_ty R) (K : Ex → St → Option R) (rc : q76_3_0_D → Option R) (d : q76_3_0_D) : Option R := q76_3_0_B q75 q66 (fun z0 z1 z2 => rc (z0, z1, z2)) d.1 d.2.1 d.2.2 (q76_3_0_x0 K) (q76_3_0_x1 K)
noncomputable def q76_3_0_A {R : Type} (K : Ex → St → Option R) (n : Nat) (d : q76_3_0_D) : Option R := q76_3_0_L n d.1 d.2.1 d.2.2 (q76_3_0_x0 K) (q76_3_0_x1 K)
abbrev q76_3_0_p : List Pat := [.leaf (.str), .leaf (.undef), .leaf (.slo .token 0), .leaf (.undef), .leaf (.int .i64), .leaf (.undef), .leaf (.undef), .leaf (.undef), .leaf (.undef), .leaf (.undef), .leaf (.undef), .leaf (.undef), .leaf (.undef), .leaf (.undef), .leaf (.undef), .leaf (.undef), .leaf (.undef), .leaf (.undef), .leaf (.undef), .leaf (.undef), .leaf (.undef), .leaf (.undef), .leaf (.undef), .leaf (.undef), .leaf (.undef), .leaf (.undef), .leaf (.undef), .leaf (.undef), .leaf (.undef), .leaf (.undef), .leaf (.undef), .leaf (.undef), .leaf (.undef), .leaf (.undef), .leaf (.undef), .leaf (.undef), .leaf (.undef), .leaf (.undef), .leaf (.undef), .leaf (.undef), .leaf (.undef), .leaf (.undef), .leaf (.undef), .leaf (.undef), .leaf (.undef)]
abbrev q76_3_0_q : List HPat := [.tok]
noncomputable def q76_3_0_f (x : Pat.dens q76_3_0_p) (y : HPat.dens q76_3_0_q) : Nat := (List.length x.1 + List.length x.2.2.1 + Int.natAbs x.2.2.2.2.1 + 64)
noncomputable def q76_3_0_d (x : Pat.dens q76_3_0_p) (y : HPat.dens q76_3_0_q) : q76_3_0_D := (x.1, x.2.2.1, x.2.2.2.2.1)
noncomputable def q76_3_0_rr {R : Type} (L : q76_3_0_ty R) : Pat.dens q76_3_0_p → HPat.dens q76_3_0_q → (Ex → St → Option R) → Option R := fun x y K => L (q76_3_0_f x y) x.1 x.2.2.1 x.2.2.2.2.1 (q76_3_0_x0 K) (q76_3_0_x1 K)
noncomputable def q76_T (R : Type) (q76_3_0_L : q76_3_0_ty R) : Nat → Option (Hint × LSpec R) := fun i => match i with
  | 3 => some (q76_3_0_h, (loopBy q76_3_0_p q76_3_0_q (q76_3_0_rr q76_3_0_L) loopNo))
  | _ => none
theorem q76_3_0_B_ok {R : Type} (q75 : q75_ty R) (q66 : q66_ty R) (q76_3_0_L : q76_3_0_ty R) (K : Ex → St → Option R) (rc : St → Option R) (d : q76_3_0_D) : roundOf tt (q76_E R q75 q66) (q76_T R q76_3_0_L) 0 ((loopsOf (codeOf Tryz.f25)).getD 0 .skip) q76_3_0_h (q76_3_0_enc d) rc K = q76_3_0_s q75 q66 K (fun d => rc (q76_3_0_enc d)) d := by kernel_rfl
theorem q76_3_0_A_succ {R : Type} (K : Ex → St → Option R) (n : Nat) (d : q76_3_0_D) : q76_3_0_A K (n + 1) d = q76_3_0_s q75 q66 K (q76_3_0_A K n) d := by kernel_rfl
theorem q76_3_0_A_zero {R : Type} (K : Ex → St → Option R) (d : q76_3_0_D) : q76_3_0_A K 0 d = none := by kernel_rfl
theorem q76_3_0_e_ok (x : Pat.dens q76_3_0_p) (y : HPat.dens q76_3_0_q) : (⟨Pat.encL q76_3_0_p x, HPat.encL q76_3_0_q y⟩ : St) = q76_3_0_enc (q76_3_0_d x y) := by kernel_rfl
theorem q76_3_0_r_ok {R : Type} (x : Pat.dens q76_3_0_p) (y : HPat.dens q76_3_0_q) (K : Ex → St → Option R) : q76_3_0_rr (q76_3_0_L) x y K = q76_3_0_A K (q76_3_0_f x y) (q76_3_0_d x y) := by kernel_rfl
theorem q76_3_0_ok {R : Type} (other : LSpec R) (ho : LsOk tt (q76_E R q75 q66) (q76_T R q76_3_0_L) 0 ((loopsOf (codeOf Tryz.f25)).getD 0 .skip) q76_3_0_h other) : LsOk tt (q76_E R q75 q66) (q76_T R q76_3_0_L) 0 ((loopsOf (codeOf Tryz.f25)).getD 0 .skip) q76_3_0_h (loopBy q76_3_0_p q76_3_0_q (q76_3_0_rr (q76_3_0_L)) other) :=
  loopBy_tie (A := q76_3_0_A) ho (loop_tie q76_3_0_enc (q76_3_0_s q75 q66) (q76_3_0_A) (q76_3_0_A_zero) (q76_3_0_B_ok q75 q66 q76_3_0_L) (q76_3_0_A_succ)) q76_3_0_f q76_3_0_d q76_3_0_e_ok (q76_3_0_r_ok)
noncomputable def q76_X {R : Type} (q76_3_0_L : q76_3_0_ty R) (x1 : Str) (k0 : (List Token) → Int → Int → Option R) : Option R :=
  bif (decide ((x1.length : Int) > (20000 : Int))) then (k0 ([] : List Token) 30 0) else (q76_3_0_L (List.length x1 + List.length ([] : List Token) + Int.natAbs 0 + 64) x1 ([] : List Token) 0 (fun y8 y9 y10 => k0 y8 y9 y10) (fun y11 y12 => k0 ([] : List Token) y11 y12))
noncomputable def q76 {R : Type} : q76_ty R := fun x1 k0 => q76_X q76_3_0_L x1 k0
theorem q76_ok {R : Type} (q75 : q75_ty R) (q66 : q66_ty R) (q76_3_0_L : q76_3_0_ty R) (x1 : Str) (k : V → Heap → Option R) : funK tt (q76_E R q75 q66) (q76_T R q76_3_0_L) false Tryz.f25 (codeOf Tryz.f25) [.str x1] [] k =
    q76_X q76_3_0_L x1 (fun q0 q1 q2 => k (.tuple [.sl .token q0 .no, .int .i64 q1, .int .i64 q2]) []) := by kernel_rfl
theorem q76_loops (R : Type) : ∀ a ∈ loopsOf (codeOf Tryz.f25), LoopOk tt (q76_E R q75 q66) (q76_T R q76_3_0_L) 0 a := by
  refine loops_ok 1 (by kernel_rfl) fun i hi => ?_
  match i, hi with
  | 0, _ => exact loopOk_some (by kernel_rfl) (q76_3_0_ok _ loopNo_ok)
  | n + 1, hi => omega
theorem q76_S_ok (R : Type) (other : Yard.Spec R) (ho : Yard.Spec.Ok Tryz.prog 25 other) : Yard.Spec.Ok Tryz.prog 25 (specBy q76_p q76_q (q76_rr q76) other) :=
  specBy_ok ho (funK_sound TT mixed (q76_EOk R) (keep := false) rfl rfl rfl rfl 0 (q76_loops R)) fun (x : Pat.dens q76_p) (y : HPat.dens q76_q) k => q76_ok q75 q66 q76_3_0_L x.1 k
end Go.Proofs.YtmlkkgfenfdndaaGreatDoor
