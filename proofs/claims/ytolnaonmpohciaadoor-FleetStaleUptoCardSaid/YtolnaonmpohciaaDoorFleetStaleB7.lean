/-
  FleetStale: for every input whose bulk is at most 1048576 the law returns true, and each argument reads behind the call as it read before; part 7 of 9 of the proof: an interpreter of the model's code over typed data, proved sound; the functions that the law reaches, printed as Lean functions and tied; the plain law. Own texts laid one behind the other.
-/
import Derived.Test.YtolnaonmpohciaaDoorCards
import Derived.Test.YtolnaonmpohciaaDoorTie
import Derived.Lib.LaidU8T
import Derived.Deep.DeepHandedRow
import Derived.Deep.DeepWitnessRowRef
import Derived.WalkKit
import Derived.ProofKit
import Derived.OpenShut
import Derived.Lib.ValidU
import Derived.Lib.ItoaLen
import Derived.Lib.Repeat
import Derived.Lib.AtoiAll
import Derived.Lib.IndexAny
import Derived.Lib.Bytealg
import Derived.Lib.SlTrimSet
import Derived.Lib.LastIndexByte
import Derived.Lib.ValidLaws
import Derived.Lib.MapLaws
import Derived.Lib.TrimUEq
import Derived.Lib.RuneBytes
import Derived.KernelRfl
import Derived.Sort.Grow
import Derived.Lib.ConvBytes
import Derived.Shelf.Strings.BuilderX
import Derived.Lib.ItoaMem
import Derived.Test.YtolnaonmpohciaaDoorFleetStaleB6
set_option linter.unusedSimpArgs false
set_option linter.unnecessarySimpa false
set_option linter.unusedVariables false
set_option linter.unusedSectionVars false
set_option maxRecDepth 100000
namespace Go.Proofs.YtolnaonmpohciaaDoor.Door
open Go Go.Lib Go.RowKit Go.ChangeShapes Go.Yard

theorem own : ownKnob Tryd.prog.godebug = none := by kernel_rfl
theorem leaves : LeavesOk Tryd.prog Go.Proofs.YtolnaonmpohciaaDoor.tt := leaves_ok (by kernel_rfl)

theorem gAcc : Tryd.prog.globalNamed "unicode/utf8.acceptRanges" = some 1 := by kernel_rfl

theorem lt_of_var {n : String} {g : Nat} {W : World} {cs : Array Value} (hg : Tryd.prog.globalNamed n = some g) (h : W.var? Tryd.prog n = some cs) : g < W.heap.size := by
  unfold World.var? at h
  simp only [hg, Option.bind_some] at h
  rcases Nat.lt_or_ge g W.heap.size with h' | h'
  · exact h'
  · simp [Array.getElem?_eq_none h'] at h

theorem lay_met {W : World} (h : laidMet Tryd.prog Rows.fleetTellsUptoRow.laid W) : lay0.says W ∧ ∀ b, lay0.blocks b → b < W.heap.size := by
  have r0 : VarReads Tryd.prog W "unicode/utf8.first" firstData := laidMet.reads h (.tail _ (.head _))
  have r1 : VarReads Tryd.prog W "unicode/utf8.acceptRanges" acceptData := laidMet.reads h (.head _)
  have ht : Utf8Tabs 0 1 W := utf8Tabs_of_readsT ({ Tryd.lay197 with } : U8Types Tryd.prog Tryd.lay197_ren) ⟨by kernel_rfl, by kernel_rfl, by kernel_rfl, by kernel_rfl, by kernel_rfl, by kernel_rfl, by kernel_rfl⟩ r0 r1
  refine ⟨⟨ht, trivial⟩, fun b hb => ?_⟩
  have hb : b < 2 := hb
  obtain ⟨g, t, cs, fuel, p, hg, _, hv, _⟩ := r1
  have e : (some 1 : Option Nat) = some g := gAcc.symm.trans hg
  cases e
  have l4 := lt_of_var hg hv
  omega

noncomputable def laidWorld (os : Os) : World :=
  let w0 := World.holding Tryd.prog os ⟨#[], #[], []⟩
  let put (h : Array Obj) (g : Nat) (cs : Array Value) : Array Obj := h.modify g fun
    | .cells _ t frozen => .cells cs t frozen
    | o => o
  let h0 := put w0.heap 0 (firstTab.map fun z => Value.int .u8 z).toArray
  let h1 := put h0 1 ((List.range 16).flatMap fun i => [Value.int .u8 (accLo i), Value.int .u8 (accHi i)]).toArray
  { w0 with heap := h1 }

theorem laid_met (os : Os) (args : Array Value) : laidMet Tryd.prog Rows.fleetTellsUptoRow.laid ((laidWorld os).forCall (fun _ _ => 0) ⟨#[], args, []⟩).memory :=
  laidMet_of_run' 8 (by kernel_rfl) (by kernel_rfl)
end Go.Proofs.YtolnaonmpohciaaDoor.Door

namespace Go.Yard

theorem chk_pos {R : Type} {b : Bool} {k : Option R} (h : b = true) : chk b k = k := by subst h; rfl

theorem wrap_id {n : Int} (h1 : -9223372036854775808 ≤ n) (h2 : n ≤ 9223372036854775807) : IntKind.i64.wrap n = n := by
  simp only [IntKind.wrap, IntKind.bits, IntKind.signed, IntKind.min, IntKind.max]
  simp
  omega

theorem getD_at {α : Type} {l : List α} {i : Nat} (h : i < l.length) (d : α) : l.getD i d = l[i] := by simp [List.getD, h]
end Go.Yard

namespace Go.Proofs.YtolnaonmpohciaaDoor.Pu
open Go Go.Yard

def JOk (x : Json) : Prop := ∀ c ∈ Ty.cells .json x, Small 1099511627776 c

theorem JOk.text {x : Json} (h : JOk x) : x.text.length ≤ 1099511627776 := (h (.str x.text) (by simp [Ty.cells])).str_inv
theorem JOk.names {x : Json} (h : JOk x) : x.names.length ≤ 1099511627776 := (h (.sl .str x.names .no) (by simp [Ty.cells])).sl_inv.1
theorem JOk.items {x : Json} (h : JOk x) : x.items.length ≤ 1099511627776 := (h (.sl .json x.items .no) (by simp [Ty.cells])).sl_inv.1
theorem anyT_same {R : Type} {a b : Option R} (h : a = b) : anyT a b = b := by subst h; unfold anyT; rw [if_pos rfl]

end Go.Proofs.YtolnaonmpohciaaDoor.Pu

namespace Go.Yard
open Go.RowKit

section
variable {P : Program} {tt : TTab} {w w' : World} {h h' : Heap} {c c' : Cfg} {R : Type}

theorem below_ext (hb : Below w.heap.size w w') : Ext w h c w' h c where
  os := hb.os
  tape := hb.tape
  output := hb.output
  size := hb.size
  used := fun _ hi => hi
  same := fun i hi hd => ⟨sim_refl (live_of hi.2 hd) (fun _ _ _ => .inr trivial), rfl, rfl⟩
  cell := fun b x hx _ => blocks_cell (hb.block b hx)
  block := fun b hx _ => hb.block b hx
  owns := fun _ _ _ ho => ho
  ext := rfl
  arr := fun b arr e fz hx => ⟨arr, fz, by rw [hb.block b (lt_heap hx)]; exact hx, rfl⟩

theorem below_wf (wf : WF w h c) (hb : Below w.heap.size w w') : WF w' h c where
  disj := wf.disj
  extlt := fun b x he => Nat.lt_of_lt_of_le (wf.extlt b x he) hb.size
  obj := fun i hi => by
    by_cases hl : (h.at i).live
    · exact (wf.obj i hi).keep (below_ext hb) (fun b hb' => hb.block b ((wf.obj i hi).lt hl hb')) rfl rfl
    · have h0 : h.at i = .free ∨ h.at i = .dead := by revert hl; cases h.at i <;> simp [AObj.live]
      rcases h0 with h0 | h0 <;> rw [h0] <;> trivial
  inj := wf.inj
  lay := wf.lay_ext (below_ext hb)

theorem callsTo_of {g : Nat} {fn : Func} (hf : P.funcs[g]? = some fn) (hn : (fn.name == "runtime.NumGoroutine") = false) (hb : fn.body.isNone = false) {args : Array Value} {Q : Value → World → Prop}
    (h : Calls P g args w fun e w' => ∃ d, e = .returned d ∧ Q d w') : CallsTo P g args w Q := by
  refine ⟨.enter g args, w, ?_, h⟩
  have hn' : fn.name ≠ "runtime.NumGoroutine" := by simpa using hn
  have hb' : fn.body ≠ none := fun e => by rw [e] at hb; cases hb
  simp [callFunc, hf, hn', hb']

theorem hand_plain {g : Nat} {fn : Func} (hf : P.funcs[g]? = some fn) (hn : (fn.name == "runtime.NumGoroutine") = false) (hb : fn.body.isNone = false) {sp : Spec R}
    (hs : ∀ vs hp k r, sp vs hp k = some r → ∀ (w : World) (c : Cfg) (args : Array Value), WF w hp c → RepL w hp c vs args.toList →
      ∃ v, k v hp = some r ∧ Calls P g args w fun e w' => ∃ d, e = .returned d ∧ Below w.heap.size w w' ∧ Rep w' hp c v d) : Spec.Ok P g sp := by
  intro vs hp k r hk w c args wf ra
  obtain ⟨v, hv, hc⟩ := hs vs hp k r hk w c args wf ra
  refine callsTo_of hf hn hb (Calls.mono hc ?_)
  rintro e w' ⟨d, he, hbl, hr⟩
  exact ⟨d, he, v, hp, c, below_wf wf hbl, below_ext hbl, hr, hv⟩

theorem repL2 {u v : V} {args : Array Value} (ra : RepL w h c [u, v] args.toList) : ∃ d e, args = #[d, e] ∧ Rep w h c u d ∧ Rep w h c v e := by
  obtain ⟨l⟩ := args
  match l, ra with
  | [d, e], ra => exact ⟨d, e, rfl, ra.head, ra.tail.head⟩
  | [], ra => have := ra.1; simp at this
  | [_], ra => have := ra.1; simp at this
  | _ :: _ :: _ :: _, ra => have := ra.1; simp at this
end

section
variable {P : Program} {tt : TTab} {w w' : World} {h h' : Heap} {c c' : Cfg} {R : Type}

structure StringDoes (P : Program) (g : Nat) : Prop where
  nil : ∀ (b : Nat) (p : Value) (w : World), w.heap[b]? = some (.cells #[p, .slice none 0 0] lay0.bld (0, 0)) →
    Calls P g #[.pointer (some ⟨b, 0, none⟩)] w fun e w' => e = .returned (.string ⟨#[]⟩) ∧ Below w.heap.size w w'
  noroom : ∀ (b q : Nat) (p : Value) (cur : Array Value) (fz : Nat × Nat) (w : World), w.heap[b]? = some (.cells #[p, .slice (some ⟨q, 0, none⟩) 0 0] lay0.bld (0, 0)) → w.heap[q]? = some (.cells cur lay0.u8 fz) →
    Calls P g #[.pointer (some ⟨b, 0, none⟩)] w fun e w' => e = .returned (.string ⟨#[]⟩) ∧ Below w.heap.size w w'
  room : ∀ (b q cap : Nat) (p : Value) (w : World), cap ≠ 0 → w.heap[b]? = some (.cells #[p, .slice (some ⟨q, 0, none⟩) 0 cap] lay0.bld (0, 0)) →
    Calls P g #[.pointer (some ⟨b, 0, none⟩)] w fun e w' => e = .returned (.string ⟨#[]⟩) ∧ Below w.heap.size w w'
  some : ∀ (b q cap : Nat) (p : Value) (cur : Array Value) (fz : Nat × Nat) (l : List UInt8) (w : World), l ≠ [] → w.heap[b]? = some (.cells #[p, .slice (some ⟨q, 0, none⟩) l.length cap] lay0.bld (0, 0)) →
    w.heap[q]? = some (.cells cur lay0.u8 fz) → l.length ≤ cap → cap ≤ mx → l.length ≤ cur.size → (∀ (j : Nat) (x : UInt8), l[j]? = some x → w.cell? ⟨q, j, none⟩ = some (.int .u8 x.toNat)) →
    Calls P g #[.pointer (some ⟨b, 0, none⟩)] w fun e w' => e = .returned (.string ⟨l.toArray⟩) ∧ w' = w.drew.freeze ⟨q, 0, none⟩ l.length

end

def isAsc (s : Str) : Bool := s.all fun b => decide (b.toNat < 128)
def validS (s : Str) : Bool := Go.Lib.validD s
def trimL (s cs : Str) : Str := s.dropWhile (cs.contains ·)
def trimR (s cs : Str) : Str := (s.reverse.dropWhile (cs.contains ·)).reverse
section
variable (R : Type)
def trimL_S : Spec R := fun vs h k => match vs with | [.str s, .str cs] => chk (isAsc cs && decide (cs.length < 4294967281)) (k (.str (trimL s cs)) h) | _ => none
end

section
variable {P : Program} {w w' : World} {h : Heap} {c : Cfg} {R : Type}
open Go.Lib

theorem asc_get {s : Str} (hs : isAsc s = true) : ∀ (j : Nat) (b : UInt8), s[j]? = some b → b.toNat < 128 := by
  intro j b hb
  have := List.all_eq_true.1 hs b (List.mem_of_getElem? hb)
  simpa using this

theorem drop_le (p : UInt8 → Bool) : ∀ s : Str, (s.dropWhile p).length ≤ s.length
  | [] => Nat.le_refl _
  | b :: s => by
    rw [List.dropWhile_cons]
    split
    · have := drop_le p s; simp; omega
    · exact Nat.le_refl _

theorem str_of (l : Str) (h' : l.length ≤ mx) : Rep w h c (.str l) (.string ⟨l.toArray⟩) := rep_str _ rfl h'

theorem ret_mono {g : Nat} {args : Array Value} {Q : Ending → World → Prop} {v : V} (hc : Calls P g args w Q)
    (hq : ∀ e w', Q e w' → ∃ d, e = .returned d ∧ Below w.heap.size w w' ∧ Rep w' h c v d) : Calls P g args w fun e w' => ∃ d, e = .returned d ∧ Below w.heap.size w w' ∧ Rep w' h c v d := Calls.mono hc fun e w' q => hq e w' q

end
end Go.Yard

set_option maxRecDepth 100000
namespace Go.Yard
open Go.Lib

def vr (c : Nat) : Prop := c < 55296 ∨ (57344 ≤ c ∧ c ≤ 1114111)
instance (c : Nat) : Decidable (vr c) := inferInstanceAs (Decidable (_ ∨ _))

def enc (c : Nat) : Str := encodeRune (c : Int)

theorem u8_nat (n : Nat) (h : n < 256) : (UInt8.ofNat n).toNat = n := by
  simp only [UInt8.toNat_ofNat']
  omega

def good (l : Str) : Prop := ¬ ((decodeL l).1 = 65533 ∧ (decodeL l).2 = 1)
instance (l : Str) : Decidable (good l) := inferInstanceAs (Decidable (¬ _))

theorem getD_app_lt {s t : Str} {i : Nat} (h : i < s.length) : (s ++ t).getD i 0 = s.getD i 0 := by
  simp [List.getD, List.getElem?_append_left h]
end Go.Yard

set_option maxRecDepth 100000
namespace Go.Proofs.YtolnaonmpohciaaDoor
open Go Go.Yard

def I64 (n : Int) : Prop := -9223372036854775808 ≤ n ∧ n ≤ 9223372036854775807
theorem i64_has {n : Int} : IntKind.i64.has n ↔ I64 n := by
  unfold IntKind.has I64
  simp only [IntKind.min, IntKind.max, IntKind.bits, IntKind.signed]
  simp

theorem dtrue {p : Prop} [Decidable p] (h : p) : decide p = true := decide_eq_true h
theorem dfalse {p : Prop} [Decidable p] (h : ¬ p) : decide p = false := decide_eq_false h

end Go.Proofs.YtolnaonmpohciaaDoor

namespace Go.Proofs.YtolnaonmpohciaaDoor.Pu
open Go Go.Yard

theorem jok_mk {k m e : Int} {t : Str} {ns : List Str} {xs : List Json} (hk : I64 k) (hm : I64 m) (he : I64 e) (ht : t.length ≤ 1099511627776) (hn : ns.length ≤ 1099511627776) (hns : ∀ s ∈ ns, s.length ≤ 1099511627776) (hx : xs.length ≤ 1099511627776) (hxs : ∀ y ∈ xs, JOk y) :
    JOk ⟨k, ⟨m, e⟩, t, ns, xs⟩ := by
  intro c hc
  simp only [Ty.cells, List.mem_cons, List.not_mem_nil, or_false] at hc
  rcases hc with rfl | rfl | rfl | rfl | rfl | rfl
  · exact .int (i64_has.2 hk)
  · exact .int (i64_has.2 hm)
  · exact .int (i64_has.2 he)
  · exact .str ht
  · exact .sl hn fun s hs v hv => by
      simp only [Ty.cells, List.mem_singleton] at hv
      subst hv
      exact .str (hns s hs)
  · exact .sl hx fun y hy v hv => hxs y hy v hv

def mk : List Str → List Json → List Str → List Json → List Str × List Json
  | n :: ns, x :: xs, a, b => if a.contains n then mk ns xs a b else mk ns xs (a ++ [n]) (b ++ [x])
  | [], _, a, b => (a, b)
  | _ :: _, [], a, b => (a, b)


theorem JOk.mant {x : Json} (h : JOk x) : I64 x.num.mant := i64_has.1 (h (.int .i64 x.num.mant) (by simp [Ty.cells])).int_inv
theorem JOk.exp {x : Json} (h : JOk x) : I64 x.num.exp := i64_has.1 (h (.int .i64 x.num.exp) (by simp [Ty.cells])).int_inv


end Go.Proofs.YtolnaonmpohciaaDoor.Pu

set_option maxRecDepth 100000
namespace Go.Proofs.YtolnaonmpohciaaDoor
open Go Go.Yard
end Go.Proofs.YtolnaonmpohciaaDoor

namespace Go.Proofs.YtolnaonmpohciaaDoor
open Go Go.Yard

end Go.Proofs.YtolnaonmpohciaaDoor

set_option maxRecDepth 100000
namespace Go.Proofs.YtolnaonmpohciaaDoor
open Go Go.Yard

def mkD (u x : Int) : Dcm × Bool := if -1000000000000000 ≤ u ∧ u ≤ 1000000000000000 ∧ -9 ≤ x ∧ x ≤ 9 then (⟨u, x⟩, true) else (⟨0, 0⟩, false)

end Go.Proofs.YtolnaonmpohciaaDoor

set_option maxRecDepth 100000
namespace Go.Proofs.YtolnaonmpohciaaDoor
open Go Go.Yard Go.RowKit Go.Shelf

section
variable {w w' : World} {h : Heap} {c : Cfg} {R : Type}

theorem trimL_le (s cs : Str) : (trimL s cs).length ≤ s.length := drop_le _ s
theorem trimL_nil (s : Str) : trimL s [] = s := by
  unfold trimL
  cases s with
  | nil => rfl
  | cons b s => simp
theorem trimL_one (s : Str) (b : UInt8) : trimL s [b] = Go.Lib.trimLeftB s b := by
  unfold trimL Go.Lib.trimLeftB
  congr 1
  funext x
  rw [List.contains_cons]
  show (x == b || false) = _
  rw [Bool.or_false]
theorem trimL_ok : Yard.Spec.Ok Tryd.prog 64 (trimL_S R) := by
  refine hand_plain Tryd.func64 rfl rfl fun vs hp k r hk w c args wf ra => ?_
  unfold trimL_S at hk
  split at hk <;> try (first | cases hk)
  rename_i s cs
  obtain ⟨hc, hk⟩ := chk_some hk
  simp only [Bool.and_eq_true, decide_eq_true_eq] at hc
  obtain ⟨ha, hcl⟩ := hc
  obtain ⟨a, b, rfl, r1, r2⟩ := repL2 ra
  obtain ⟨t, rfl, rfl, hl⟩ := r1.str_inv
  obtain ⟨u, rfl, rfl, hl2⟩ := r2.str_inv
  rw [size_data] at hcl
  have hasc := asc_get ha
  have hle := trimL_le t.data.toList u.data.toList
  rw [size_data] at hle
  have fin : ∀ (l : Str), l = trimL t.data.toList u.data.toList → ∀ w' : World, Rep w' hp c (.str (trimL t.data.toList u.data.toList)) (.string ⟨l.toArray⟩) := fun l e w' => by
    rw [e]; exact str_of _ (by omega)
  by_cases h0 : t.size = 0 ∨ u.size = 0
  · refine ⟨_, hk, ret_mono (Any.strings_TrimLeft_empty Tryd.lay161 t u w h0) ?_⟩
    rintro e w' ⟨he, rfl⟩
    have e2 : (⟨t.data.toList.toArray⟩ : ByteArray) = t := string_ext rfl
    rw [← e2] at he
    refine ⟨_, he, Below.refl _ _, fin _ ?_ _⟩
    rcases h0 with h0 | h0
    · have : t.data.toList = [] := List.eq_nil_of_length_eq_zero (by rw [size_data]; exact h0)
      rw [this]; unfold trimL; simp
    · have : u.data.toList = [] := List.eq_nil_of_length_eq_zero (by rw [size_data]; exact h0)
      rw [this, trimL_nil]
  · have hu1 : u.size = 1 ∨ 2 ≤ u.size := by omega
    rcases hu1 with hu1 | hu2
    · obtain ⟨b, hb⟩ : ∃ b, u.data.toList = [b] := by
        have hul : u.data.toList.length = 1 := by rw [size_data]; exact hu1
        match hq : u.data.toList, hul with
        | [b], _ => exact ⟨b, rfl⟩
      have eu : u = ⟨#[b]⟩ := string_ext (by rw [hb])
      subst eu
      refine ⟨_, hk, ret_mono (Any.strings_TrimLeft_one Tryd.lay161 t b (hasc 0 b rfl) w) ?_⟩
      rintro e w' ⟨he, rfl⟩
      exact ⟨_, he, Below.refl _ _, fin _ (trimL_one _ _).symm _⟩
    · refine ⟨_, hk, ret_mono (Any.strings_TrimLeft_set Tryd.lay161 Tryd.zeroValue97 (by kernel_rfl) t u w hu2 (by omega) (by omega) hasc) ?_⟩
      rintro e w' ⟨he, rfl⟩
      refine ⟨_, he, ?_, fin _ rfl _⟩
      exact ((Below.refl _ _).alloc (Nat.le_refl _) _).alloc (by simp) _

end
end Go.Proofs.YtolnaonmpohciaaDoor

/-
  Functions of the program as pure Lean functions, and the ties; printed by wip/tools/emit.py.
-/
set_option maxRecDepth 100000
namespace Go.Proofs.YtolnaonmpohciaaDoor
open Go Go.Yard
variable {R : Type}

/-! ### humpyard/fleet.Begin -/
abbrev fleet_Begin_ty (R : Type) : Type := Str → Int → (Yard.Ctl → Option R) → Option R
abbrev fleet_Begin_p : List Pat := [.leaf (.str), .leaf (.int .i64)]
abbrev fleet_Begin_q : List HPat := []
noncomputable def fleet_Begin_rr (fn : fleet_Begin_ty R) : Run R fleet_Begin_p fleet_Begin_q := fun x y k => fn x.1 x.2.1 (fun q0 => k (.agg [.str q0.vehicle, .int .i64 q0.header, .int .i64 q0.order, .int .i64 q0.update, .int .i64 q0.boot, .int .i64 q0.seen, .sl (.int .i64) q0.path .no, .int .i64 q0.seq, .bool q0.open_, .int .i64 q0.rel, .bool q0.wait, .int .i64 q0.pending.header, .str q0.pending.vehicle, .int .i64 q0.pending.order, .int .i64 q0.pending.update, .sl .stop q0.pending.nodes .no, .sl .way q0.pending.edges .no]) [])
noncomputable def fleet_Begin_s (fn : fleet_Begin_ty R) := specBy fleet_Begin_p fleet_Begin_q (fleet_Begin_rr fn)
section
noncomputable def fleet_Begin_X (x1 : Str) (x2 : Int) (k0 : Yard.Ctl → Option R) : Option R :=
  k0 (⟨x1, 0, 0, 0, 0, 0, ([x2] : List Int), 0, false, 0, false, ⟨0, ([] : Str), 0, 0, ([] : List Stop), ([] : List Yard.Way)⟩⟩ : Yard.Ctl)
theorem fleet_Begin_ok : Tied (R := R) tt [] noT false Tryd.f21 fleet_Begin_p fleet_Begin_q (fleet_Begin_rr fleet_Begin_X) := fun x y k => by kernel_rfl
end
noncomputable def fleet_Begin : fleet_Begin_ty R := fun x1 x2 k0 => fleet_Begin_X x1 x2 k0
theorem fleet_Begin_S_ok (R : Type) : OkS Tryd.prog 21 (fleet_Begin_s (fleet_Begin (R := R))) := tie_ok TT mixed .n rfl rfl rfl rfl noT_ok (fleet_Begin_ok)

/-! ### slices.Clone[[]int,int] -/
abbrev slices_Clone_intint_ty (R : Type) : Type := (List Int) → ((List Int) → Option R) → Option R
abbrev slices_Clone_intint_p : List Pat := [.leaf (.sl (.int .i64))]
abbrev slices_Clone_intint_q : List HPat := []
noncomputable def slices_Clone_intint_rr (fn : slices_Clone_intint_ty R) : Run R slices_Clone_intint_p slices_Clone_intint_q := fun x y k => fn x.1 (fun q0 => k (.sl (.int .i64) q0 .no) [])
noncomputable def slices_Clone_intint_s (fn : slices_Clone_intint_ty R) := specBy slices_Clone_intint_p slices_Clone_intint_q (slices_Clone_intint_rr fn)
section
noncomputable def slices_Clone_intint_X (x1 : List Int) (k0 : (List Int) → Option R) : Option R :=
  bif x1.isEmpty then (anyT (k0 ([] : List Int)) (chk (decide ((0 + x1.length) * 8 ≤ 140737488355328)) (k0 ((([] : List Int) : List Int) ++ (x1 : List Int))))) else (chk (decide ((0 + x1.length) * 8 ≤ 140737488355328)) (k0 ((([] : List Int) : List Int) ++ (x1 : List Int))))
theorem slices_Clone_intint_ok : Tied (R := R) tt [] noT false Tryd.f27 slices_Clone_intint_p slices_Clone_intint_q (slices_Clone_intint_rr slices_Clone_intint_X) := fun x y k => by kernel_rfl
end
noncomputable def slices_Clone_intint : slices_Clone_intint_ty R := fun x1 k0 => slices_Clone_intint_X x1 k0
theorem slices_Clone_intint_S_ok (R : Type) : OkS Tryd.prog 27 (slices_Clone_intint_s (slices_Clone_intint (R := R))) := tie_ok TT mixed .n rfl rfl rfl rfl noT_ok (slices_Clone_intint_ok)

/-! ### slices.Clone[[]humpyard/api.Stop,humpyard/api.Stop] -/
abbrev slices_Clone_StopStop_ty (R : Type) : Type := (List Stop) → ((List Stop) → Option R) → Option R
abbrev slices_Clone_StopStop_p : List Pat := [.leaf (.sl .stop)]
abbrev slices_Clone_StopStop_q : List HPat := []
noncomputable def slices_Clone_StopStop_rr (fn : slices_Clone_StopStop_ty R) : Run R slices_Clone_StopStop_p slices_Clone_StopStop_q := fun x y k => fn x.1 (fun q0 => k (.sl .stop q0 .no) [])
noncomputable def slices_Clone_StopStop_s (fn : slices_Clone_StopStop_ty R) := specBy slices_Clone_StopStop_p slices_Clone_StopStop_q (slices_Clone_StopStop_rr fn)
section
noncomputable def slices_Clone_StopStop_X (x1 : List Stop) (k0 : (List Stop) → Option R) : Option R :=
  bif x1.isEmpty then (anyT (k0 ([] : List Stop)) (chk (decide ((0 + x1.length) * 24 ≤ 140737488355328)) (k0 (([] : List Stop) ++ x1)))) else (chk (decide ((0 + x1.length) * 24 ≤ 140737488355328)) (k0 (([] : List Stop) ++ x1)))
theorem slices_Clone_StopStop_ok : Tied (R := R) tt [] noT false Tryd.f50 slices_Clone_StopStop_p slices_Clone_StopStop_q (slices_Clone_StopStop_rr slices_Clone_StopStop_X) := fun x y k => by kernel_rfl
end
noncomputable def slices_Clone_StopStop : slices_Clone_StopStop_ty R := fun x1 k0 => slices_Clone_StopStop_X x1 k0
theorem slices_Clone_StopStop_S_ok (R : Type) : OkS Tryd.prog 50 (slices_Clone_StopStop_s (slices_Clone_StopStop (R := R))) := tie_ok TT mixed .n rfl rfl rfl rfl noT_ok (slices_Clone_StopStop_ok)

/-! ### slices.Clone[[]humpyard/api.Way,humpyard/api.Way] -/
abbrev slices_Clone_WayWay_ty (R : Type) : Type := (List Yard.Way) → ((List Yard.Way) → Option R) → Option R
abbrev slices_Clone_WayWay_p : List Pat := [.leaf (.sl .way)]
abbrev slices_Clone_WayWay_q : List HPat := []
noncomputable def slices_Clone_WayWay_rr (fn : slices_Clone_WayWay_ty R) : Run R slices_Clone_WayWay_p slices_Clone_WayWay_q := fun x y k => fn x.1 (fun q0 => k (.sl .way q0 .no) [])
noncomputable def slices_Clone_WayWay_s (fn : slices_Clone_WayWay_ty R) := specBy slices_Clone_WayWay_p slices_Clone_WayWay_q (slices_Clone_WayWay_rr fn)
section
noncomputable def slices_Clone_WayWay_X (x1 : List Yard.Way) (k0 : (List Yard.Way) → Option R) : Option R :=
  bif x1.isEmpty then (anyT (k0 ([] : List Yard.Way)) (chk (decide ((0 + x1.length) * 24 ≤ 140737488355328)) (k0 (([] : List Yard.Way) ++ x1)))) else (chk (decide ((0 + x1.length) * 24 ≤ 140737488355328)) (k0 (([] : List Yard.Way) ++ x1)))
theorem slices_Clone_WayWay_ok : Tied (R := R) tt [] noT false Tryd.f51 slices_Clone_WayWay_p slices_Clone_WayWay_q (slices_Clone_WayWay_rr slices_Clone_WayWay_X) := fun x y k => by kernel_rfl
end
noncomputable def slices_Clone_WayWay : slices_Clone_WayWay_ty R := fun x1 k0 => slices_Clone_WayWay_X x1 k0
theorem slices_Clone_WayWay_S_ok (R : Type) : OkS Tryd.prog 51 (slices_Clone_WayWay_s (slices_Clone_WayWay (R := R))) := tie_ok TT mixed .n rfl rfl rfl rfl noT_ok (slices_Clone_WayWay_ok)

/-! ### humpyard/fleet.fresh -/
abbrev fleet_fresh_ty (R : Type) : Type := Order → (Order → Option R) → Option R
abbrev fleet_fresh_p : List Pat := [.agg [.int .i64, .str, .int .i64, .int .i64, .sl .stop, .sl .way]]
abbrev fleet_fresh_q : List HPat := []
noncomputable def fleet_fresh_rr (fn : fleet_fresh_ty R) : Run R fleet_fresh_p fleet_fresh_q := fun x y k => fn (⟨x.1.1, x.1.2.1, x.1.2.2.1, x.1.2.2.2.1, x.1.2.2.2.2.1, x.1.2.2.2.2.2.1⟩ : Order) (fun q0 => k (.agg [.int .i64 q0.header, .str q0.vehicle, .int .i64 q0.order, .int .i64 q0.update, .sl .stop q0.nodes .no, .sl .way q0.edges .no]) [])
noncomputable def fleet_fresh_s (fn : fleet_fresh_ty R) := specBy fleet_fresh_p fleet_fresh_q (fleet_fresh_rr fn)
section
variable (slices_Clone_StopStop : slices_Clone_StopStop_ty R) (slices_Clone_WayWay : slices_Clone_WayWay_ty R)
noncomputable def fleet_fresh_E : List (Ent R) := [(50, true, (slices_Clone_StopStop_s slices_Clone_StopStop specNo)), (51, true, (slices_Clone_WayWay_s slices_Clone_WayWay specNo))]
noncomputable def fleet_fresh_X (x1 : Order) (k0 : Order → Option R) : Option R :=
  slices_Clone_StopStop x1.nodes (fun y2 => slices_Clone_WayWay x1.edges (fun y3 => k0 (⟨x1.header, x1.vehicle, x1.order, x1.update, y2, y3⟩ : Order)))
theorem fleet_fresh_ok : Tied (R := R) tt (fleet_fresh_E slices_Clone_StopStop slices_Clone_WayWay) noT false Tryd.f35 fleet_fresh_p fleet_fresh_q (fleet_fresh_rr (fleet_fresh_X slices_Clone_StopStop slices_Clone_WayWay)) := fun x y k => by kernel_rfl
end
theorem fleet_fresh_EOk : EntOk (R := R) Tryd.prog (fleet_fresh_E (R := R) slices_Clone_StopStop slices_Clone_WayWay) := .c (slices_Clone_StopStop_S_ok R) <| .c (slices_Clone_WayWay_S_ok R) <| .n
noncomputable def fleet_fresh : fleet_fresh_ty R := fun x1 k0 => fleet_fresh_X slices_Clone_StopStop slices_Clone_WayWay x1 k0
theorem fleet_fresh_S_ok (R : Type) : OkS Tryd.prog 35 (fleet_fresh_s (fleet_fresh (R := R))) := tie_ok TT mixed (fleet_fresh_EOk (R := R)) rfl rfl rfl rfl noT_ok (fleet_fresh_ok slices_Clone_StopStop slices_Clone_WayWay)

/-! ### humpyard/fleet.own -/
abbrev fleet_own_ty (R : Type) : Type := Yard.Ctl → (Yard.Ctl → Option R) → Option R
abbrev fleet_own_p : List Pat := [.agg [.str, .int .i64, .int .i64, .int .i64, .int .i64, .int .i64, .sl (.int .i64), .int .i64, .bool, .int .i64, .bool, .int .i64, .str, .int .i64, .int .i64, .sl .stop, .sl .way]]
abbrev fleet_own_q : List HPat := []
noncomputable def fleet_own_rr (fn : fleet_own_ty R) : Run R fleet_own_p fleet_own_q := fun x y k => fn (⟨x.1.1, x.1.2.1, x.1.2.2.1, x.1.2.2.2.1, x.1.2.2.2.2.1, x.1.2.2.2.2.2.1, x.1.2.2.2.2.2.2.1, x.1.2.2.2.2.2.2.2.1, (t8 x.1).1, (t8 x.1).2.1, (t8 x.1).2.2.1, ⟨(t8 x.1).2.2.2.1, (t8 x.1).2.2.2.2.1, (t8 x.1).2.2.2.2.2.1, (t8 x.1).2.2.2.2.2.2.1, (t8 x.1).2.2.2.2.2.2.2.1, (t8 (t8 x.1)).1⟩⟩ : Yard.Ctl) (fun q0 => k (.ptr 0 0) [.cells [.str q0.vehicle, .int .i64 q0.header, .int .i64 q0.order, .int .i64 q0.update, .int .i64 q0.boot, .int .i64 q0.seen, .sl (.int .i64) q0.path .no, .int .i64 q0.seq, .bool q0.open_, .int .i64 q0.rel, .bool q0.wait, .int .i64 q0.pending.header, .str q0.pending.vehicle, .int .i64 q0.pending.order, .int .i64 q0.pending.update, .sl .stop q0.pending.nodes .no, .sl .way q0.pending.edges .no]])
noncomputable def fleet_own_s (fn : fleet_own_ty R) := specBy fleet_own_p fleet_own_q (fleet_own_rr fn)
section
variable (fleet_fresh : fleet_fresh_ty R) (slices_Clone_intint : slices_Clone_intint_ty R)
noncomputable def fleet_own_E : List (Ent R) := [(35, true, (fleet_fresh_s fleet_fresh specNo)), (27, true, (slices_Clone_intint_s slices_Clone_intint specNo))]
noncomputable def fleet_own_X (x1 : Yard.Ctl) (k0 : Yard.Ctl → Option R) : Option R :=
  slices_Clone_intint x1.path (fun y2 => fleet_fresh x1.pending (fun y3 => k0 (⟨x1.vehicle, x1.header, x1.order, x1.update, x1.boot, x1.seen, y2, x1.seq, x1.open_, x1.rel, x1.wait, ⟨y3.header, y3.vehicle, y3.order, y3.update, y3.nodes, y3.edges⟩⟩ : Yard.Ctl)))
theorem fleet_own_ok : Tied (R := R) tt (fleet_own_E fleet_fresh slices_Clone_intint) noT false Tryd.f25 fleet_own_p fleet_own_q (fleet_own_rr (fleet_own_X fleet_fresh slices_Clone_intint)) := fun x y k => by kernel_rfl
end
theorem fleet_own_EOk : EntOk (R := R) Tryd.prog (fleet_own_E (R := R) fleet_fresh slices_Clone_intint) := .c (fleet_fresh_S_ok R) <| .c (slices_Clone_intint_S_ok R) <| .n
noncomputable def fleet_own : fleet_own_ty R := fun x1 k0 => fleet_own_X fleet_fresh slices_Clone_intint x1 k0
theorem fleet_own_S_ok (R : Type) : OkS Tryd.prog 25 (fleet_own_s (fleet_own (R := R))) := tie_ok TT mixed (fleet_own_EOk (R := R)) rfl rfl rfl rfl noT_ok (fleet_own_ok fleet_fresh slices_Clone_intint)

/-! ### humpyard/fleet.Idle -/
abbrev fleet_Idle_ty (R : Type) : Type := Yard.Ctl → (Bool → Option R) → Option R
abbrev fleet_Idle_p : List Pat := [.agg [.str, .int .i64, .int .i64, .int .i64, .int .i64, .int .i64, .sl (.int .i64), .int .i64, .bool, .int .i64, .bool, .int .i64, .str, .int .i64, .int .i64, .sl .stop, .sl .way]]
abbrev fleet_Idle_q : List HPat := []
noncomputable def fleet_Idle_rr (fn : fleet_Idle_ty R) : Run R fleet_Idle_p fleet_Idle_q := fun x y k => fn (⟨x.1.1, x.1.2.1, x.1.2.2.1, x.1.2.2.2.1, x.1.2.2.2.2.1, x.1.2.2.2.2.2.1, x.1.2.2.2.2.2.2.1, x.1.2.2.2.2.2.2.2.1, (t8 x.1).1, (t8 x.1).2.1, (t8 x.1).2.2.1, ⟨(t8 x.1).2.2.2.1, (t8 x.1).2.2.2.2.1, (t8 x.1).2.2.2.2.2.1, (t8 x.1).2.2.2.2.2.2.1, (t8 x.1).2.2.2.2.2.2.2.1, (t8 (t8 x.1)).1⟩⟩ : Yard.Ctl) (fun q0 => k (.bool q0) [])
noncomputable def fleet_Idle_s (fn : fleet_Idle_ty R) := specBy fleet_Idle_p fleet_Idle_q (fleet_Idle_rr fn)
section
noncomputable def fleet_Idle_X (x1 : Yard.Ctl) (k0 : Bool → Option R) : Option R :=
  bif ((x1.path.length : Int) == 1) then (k0 (!x1.wait)) else (k0 false)
theorem fleet_Idle_ok : Tied (R := R) tt [] noT false Tryd.f12 fleet_Idle_p fleet_Idle_q (fleet_Idle_rr fleet_Idle_X) := fun x y k => by kernel_rfl
end
noncomputable def fleet_Idle : fleet_Idle_ty R := fun x1 k0 => fleet_Idle_X x1 k0
theorem fleet_Idle_S_ok (R : Type) : OkS Tryd.prog 12 (fleet_Idle_s (fleet_Idle (R := R))) := tie_ok TT mixed .n rfl rfl rfl rfl noT_ok (fleet_Idle_ok)

/-! ### humpyard/fleet.isPath -/
abbrev fleet_isPath_ty (R : Type) : Type := (List Int) → (Bool → Option R) → Option R
abbrev fleet_isPath_p : List Pat := [.leaf (.sl (.int .i64))]
abbrev fleet_isPath_q : List HPat := []
noncomputable def fleet_isPath_rr (fn : fleet_isPath_ty R) : Run R fleet_isPath_p fleet_isPath_q := fun x y k => fn x.1 (fun q0 => k (.bool q0) [])
noncomputable def fleet_isPath_s (fn : fleet_isPath_ty R) := specBy fleet_isPath_p fleet_isPath_q (fleet_isPath_rr fn)
abbrev fleet_isPath_2_0_ty (R : Type) : Type := Nat → (List Int) → (List Int) → Int → Int → ((List Int) → Option R) → ((List Int) → Bool → Option R) → Option R
noncomputable def fleet_isPath_2_0_h : Hint := { live := [0, 5, 6, 7], own := [], rows := [], cells := [], drop := [], out := [0, 2] }
abbrev fleet_isPath_2_0_D : Type := (List Int) × (List Int) × Int × Int
noncomputable def fleet_isPath_2_0_enc : fleet_isPath_2_0_D → St := fun d => ⟨.sl (.int .i64) d.1 .no :: U 4 (.sl (.int .i64) d.2.1 .no :: .int .i64 d.2.2.1 :: .int .i64 d.2.2.2 :: U 19 ([])), []⟩
noncomputable def fleet_isPath_2_0_x0 (K : Ex → St → Option R) (q0 : List Int) : Option R := K (.exit 0) ⟨.sl (.int .i64) q0 .no :: U 26 ([]), []⟩
noncomputable def fleet_isPath_2_0_x1 (K : Ex → St → Option R) (q0 : List Int) (q1 : Bool) : Option R := K (.ret) ⟨.sl (.int .i64) q0 .no :: .undef :: .bool q1 :: U 24 ([]), []⟩
abbrev fleet_isPath_2_0_p : List Pat := .leaf (.sl (.int .i64)) :: PU 4 (.leaf (.sl (.int .i64)) :: .leaf (.int .i64) :: .leaf (.int .i64) :: PU 19 ([]))
abbrev fleet_isPath_2_0_q : List HPat := []
noncomputable def fleet_isPath_2_0_f (x : Pat.dens fleet_isPath_2_0_p) (y : HPat.dens fleet_isPath_2_0_q) : Nat := (List.length x.1 + List.length x.2.2.2.2.2.1 + Int.natAbs x.2.2.2.2.2.2.1 + Int.natAbs x.2.2.2.2.2.2.2.1 + 64)
noncomputable def fleet_isPath_2_0_d (x : Pat.dens fleet_isPath_2_0_p) (y : HPat.dens fleet_isPath_2_0_q) : fleet_isPath_2_0_D := (x.1, x.2.2.2.2.2.1, x.2.2.2.2.2.2.1, x.2.2.2.2.2.2.2.1)
noncomputable def fleet_isPath_2_0_rr (L : fleet_isPath_2_0_ty R) : LRun R fleet_isPath_2_0_p fleet_isPath_2_0_q := fun x y K => L (fleet_isPath_2_0_f x y) x.1 x.2.2.2.2.2.1 x.2.2.2.2.2.2.1 x.2.2.2.2.2.2.2.1 (fleet_isPath_2_0_x0 K) (fleet_isPath_2_0_x1 K)
section
variable (fleet_isPath_2_0_L : fleet_isPath_2_0_ty R)
noncomputable def fleet_isPath_2_0_B (rec' : (List Int) → (List Int) → Int → Int → Option R) (x2 : List Int) (x3 : List Int) (x4 : Int) (x5 : Int) (e0 : (List Int) → Option R) (e1 : (List Int) → Bool → Option R) : Option R :=
  bif (decide (x5 < x4)) then (chk (decide ((0 : Int) ≤ x5) && decide (x5 < x3.length)) (bif (decide ((x3.getD x5.toNat (Ty.dflt (.int .i64))) < (0 : Int))) then (e1 x2 false) else (bif (!((decide ((x3.getD x5.toNat (Ty.dflt (.int .i64))) ≥ (1000 : Int))) == ((Int.tmod x5 2) == 1))) then (e1 x2 false) else (rec' x2 x3 x4 (IntKind.i64.wrap (x5 + 1)))))) else (e0 x2)
noncomputable def fleet_isPath_2_0_s (K : Ex → St → Option R) (rc : fleet_isPath_2_0_D → Option R) (d : fleet_isPath_2_0_D) : Option R := fleet_isPath_2_0_B (fun z0 z1 z2 z3 => rc (z0, z1, z2, z3)) d.1 d.2.1 d.2.2.1 d.2.2.2 (fleet_isPath_2_0_x0 K) (fleet_isPath_2_0_x1 K)
noncomputable def fleet_isPath_T : Nat → Option (Hint × LSpec R) := fun i => match i with
  | 2 => some (fleet_isPath_2_0_h, (loopBy fleet_isPath_2_0_p fleet_isPath_2_0_q (fleet_isPath_2_0_rr fleet_isPath_2_0_L) loopNo))
  | _ => none
theorem fleet_isPath_2_0_B_ok (K : Ex → St → Option R) (rc : St → Option R) (d : fleet_isPath_2_0_D) : roundOf tt (envL []) (fleet_isPath_T fleet_isPath_2_0_L) 0 ((loopsOf (codeOf Tryd.f26)).getD 0 .skip) fleet_isPath_2_0_h (fleet_isPath_2_0_enc d) rc K = fleet_isPath_2_0_s K (fun d => rc (fleet_isPath_2_0_enc d)) d := by kernel_rfl
noncomputable def fleet_isPath_X (x1 : List Int) (k0 : Bool → Option R) : Option R :=
  fleet_isPath_2_0_L (List.length x1 + List.length x1 + Int.natAbs (x1.length : Int) + Int.natAbs 0 + 64) x1 x1 (x1.length : Int) 0 (fun y7 => k0 ((Int.tmod (y7.length : Int) 2) == 1)) (fun y8 y9 => k0 y9)
theorem fleet_isPath_ok : Tied (R := R) tt [] (fleet_isPath_T fleet_isPath_2_0_L) false Tryd.f26 fleet_isPath_p fleet_isPath_q (fleet_isPath_rr (fleet_isPath_X fleet_isPath_2_0_L)) := fun x y k => by kernel_rfl
end
noncomputable def fleet_isPath_2_0_L : fleet_isPath_2_0_ty R
  | 0, _, _, _, _, _, _ => none
  | n + 1, x0', x1', x2', x3', e0, e1 => fleet_isPath_2_0_B (fun x0' x1' x2' x3' => fleet_isPath_2_0_L n x0' x1' x2' x3' e0 e1) x0' x1' x2' x3' e0 e1
noncomputable def fleet_isPath_2_0_A (K : Ex → St → Option R) (n : Nat) (d : fleet_isPath_2_0_D) : Option R := fleet_isPath_2_0_L n d.1 d.2.1 d.2.2.1 d.2.2.2 (fleet_isPath_2_0_x0 K) (fleet_isPath_2_0_x1 K)
theorem fleet_isPath_2_0_ok (other : LSpec R) (ho : LsOk tt (envL []) (fleet_isPath_T (R := R) fleet_isPath_2_0_L) 0 ((loopsOf (codeOf Tryd.f26)).getD 0 .skip) fleet_isPath_2_0_h other) : LsOk tt (envL []) (fleet_isPath_T (R := R) fleet_isPath_2_0_L) 0 ((loopsOf (codeOf Tryd.f26)).getD 0 .skip) fleet_isPath_2_0_h (loopBy fleet_isPath_2_0_p fleet_isPath_2_0_q (fleet_isPath_2_0_rr (fleet_isPath_2_0_L)) other) :=
  loopBy_tie (A := fleet_isPath_2_0_A) ho (loop_tie fleet_isPath_2_0_enc (fleet_isPath_2_0_s) (fleet_isPath_2_0_A) (fun _ _ => by kernel_rfl) (fleet_isPath_2_0_B_ok fleet_isPath_2_0_L) (fun _ _ _ => by kernel_rfl)) fleet_isPath_2_0_f fleet_isPath_2_0_d (fun _ _ => by kernel_rfl) (fun _ _ _ => by kernel_rfl)
noncomputable def fleet_isPath : fleet_isPath_ty R := fun x1 k0 => fleet_isPath_X fleet_isPath_2_0_L x1 k0
theorem fleet_isPath_loops (R : Type) : ∀ a ∈ loopsOf (codeOf Tryd.f26), LoopOk tt (envL []) (fleet_isPath_T (R := R) fleet_isPath_2_0_L) 0 a := by
  refine loops_ok 1 (by kernel_rfl) fun i hi => ?_
  match i, hi with
  | 0, _ => exact loopOk_some (by kernel_rfl) (fleet_isPath_2_0_ok _ loopNo_ok)
  | n + 1, hi => omega
theorem fleet_isPath_S_ok (R : Type) : OkS Tryd.prog 26 (fleet_isPath_s (fleet_isPath (R := R))) := tie_ok TT mixed .n rfl rfl rfl rfl (fleet_isPath_loops R) (fleet_isPath_ok fleet_isPath_2_0_L)

/-! ### humpyard/fleet.Plan -/
abbrev fleet_Plan_ty (R : Type) : Type := Yard.Ctl → (List Int) → (Yard.Ctl → Bool → Option R) → Option R
abbrev fleet_Plan_p : List Pat := [.agg [.str, .int .i64, .int .i64, .int .i64, .int .i64, .int .i64, .sl (.int .i64), .int .i64, .bool, .int .i64, .bool, .int .i64, .str, .int .i64, .int .i64, .sl .stop, .sl .way], .leaf (.sl (.int .i64))]
abbrev fleet_Plan_q : List HPat := []
noncomputable def fleet_Plan_rr (fn : fleet_Plan_ty R) : Run R fleet_Plan_p fleet_Plan_q := fun x y k => fn (⟨x.1.1, x.1.2.1, x.1.2.2.1, x.1.2.2.2.1, x.1.2.2.2.2.1, x.1.2.2.2.2.2.1, x.1.2.2.2.2.2.2.1, x.1.2.2.2.2.2.2.2.1, (t8 x.1).1, (t8 x.1).2.1, (t8 x.1).2.2.1, ⟨(t8 x.1).2.2.2.1, (t8 x.1).2.2.2.2.1, (t8 x.1).2.2.2.2.2.1, (t8 x.1).2.2.2.2.2.2.1, (t8 x.1).2.2.2.2.2.2.2.1, (t8 (t8 x.1)).1⟩⟩ : Yard.Ctl) x.2.1 (fun q0 q1 => k (.tuple [.agg [.str q0.vehicle, .int .i64 q0.header, .int .i64 q0.order, .int .i64 q0.update, .int .i64 q0.boot, .int .i64 q0.seen, .sl (.int .i64) q0.path .no, .int .i64 q0.seq, .bool q0.open_, .int .i64 q0.rel, .bool q0.wait, .int .i64 q0.pending.header, .str q0.pending.vehicle, .int .i64 q0.pending.order, .int .i64 q0.pending.update, .sl .stop q0.pending.nodes .no, .sl .way q0.pending.edges .no], .bool q1]) [])
noncomputable def fleet_Plan_s (fn : fleet_Plan_ty R) := specBy fleet_Plan_p fleet_Plan_q (fleet_Plan_rr fn)
section
variable (fleet_Idle : fleet_Idle_ty R) (fleet_isPath : fleet_isPath_ty R) (fleet_own : fleet_own_ty R) (slices_Clone_intint : slices_Clone_intint_ty R)
noncomputable def fleet_Plan_E : List (Ent R) := [(12, true, (fleet_Idle_s fleet_Idle specNo)), (26, true, (fleet_isPath_s fleet_isPath specNo)), (25, false, (fleet_own_s fleet_own specNo)), (27, true, (slices_Clone_intint_s slices_Clone_intint specNo))]
noncomputable def fleet_Plan_X (x1 : Yard.Ctl) (x2 : List Int) (k0 : Yard.Ctl → Bool → Option R) : Option R :=
  fleet_own x1 (fun y3 => fleet_Idle x1 (fun y4 => bif (!y4) then (k0 y3 false) else (bif (decide ((x2.length : Int) < (3 : Int))) then (k0 y3 false) else (fleet_isPath x2 (fun y5 => bif (!y5) then (k0 y3 false) else (chk (decide ((0 : Int) < x2.length)) (chk (decide ((0 : Int) < x1.path.length)) (bif ((x2.getD 0 (Ty.dflt (.int .i64))) != (x1.path.getD 0 (Ty.dflt (.int .i64)))) then (k0 y3 false) else (slices_Clone_intint x2 (fun y7 => k0 (⟨y3.vehicle, y3.header, y3.order, y3.update, y3.boot, y3.seen, y7, y3.seq, false, 0, y3.wait, ⟨y3.pending.header, y3.pending.vehicle, y3.pending.order, y3.pending.update, y3.pending.nodes, y3.pending.edges⟩⟩ : Yard.Ctl) true))))))))))
theorem fleet_Plan_ok : Tied (R := R) tt (fleet_Plan_E fleet_Idle fleet_isPath fleet_own slices_Clone_intint) noT false Tryd.f9 fleet_Plan_p fleet_Plan_q (fleet_Plan_rr (fleet_Plan_X fleet_Idle fleet_isPath fleet_own slices_Clone_intint)) := fun x y k => by kernel_rfl
end
theorem fleet_Plan_EOk : EntOk (R := R) Tryd.prog (fleet_Plan_E (R := R) fleet_Idle fleet_isPath fleet_own slices_Clone_intint) := .c (fleet_Idle_S_ok R) <| .c (fleet_isPath_S_ok R) <| .d (fleet_own_S_ok R) rfl <| .c (slices_Clone_intint_S_ok R) <| .n
noncomputable def fleet_Plan : fleet_Plan_ty R := fun x1 x2 k0 => fleet_Plan_X fleet_Idle fleet_isPath fleet_own slices_Clone_intint x1 x2 k0
theorem fleet_Plan_S_ok (R : Type) : OkS Tryd.prog 9 (fleet_Plan_s (fleet_Plan (R := R))) := tie_ok TT mixed (fleet_Plan_EOk (R := R)) rfl rfl rfl rfl noT_ok (fleet_Plan_ok fleet_Idle fleet_isPath fleet_own slices_Clone_intint)

/-! ### humpyard/fleet.right -/
abbrev fleet_right_ty (R : Type) : Type := Yard.Ctl → (Bool → Option R) → Option R
abbrev fleet_right_p : List Pat := [.agg [.str, .int .i64, .int .i64, .int .i64, .int .i64, .int .i64, .sl (.int .i64), .int .i64, .bool, .int .i64, .bool, .int .i64, .str, .int .i64, .int .i64, .sl .stop, .sl .way]]
abbrev fleet_right_q : List HPat := []
noncomputable def fleet_right_rr (fn : fleet_right_ty R) : Run R fleet_right_p fleet_right_q := fun x y k => fn (⟨x.1.1, x.1.2.1, x.1.2.2.1, x.1.2.2.2.1, x.1.2.2.2.2.1, x.1.2.2.2.2.2.1, x.1.2.2.2.2.2.2.1, x.1.2.2.2.2.2.2.2.1, (t8 x.1).1, (t8 x.1).2.1, (t8 x.1).2.2.1, ⟨(t8 x.1).2.2.2.1, (t8 x.1).2.2.2.2.1, (t8 x.1).2.2.2.2.2.1, (t8 x.1).2.2.2.2.2.2.1, (t8 x.1).2.2.2.2.2.2.2.1, (t8 (t8 x.1)).1⟩⟩ : Yard.Ctl) (fun q0 => k (.bool q0) [])
noncomputable def fleet_right_s (fn : fleet_right_ty R) := specBy fleet_right_p fleet_right_q (fleet_right_rr fn)
section
variable (fleet_isPath : fleet_isPath_ty R)
noncomputable def fleet_right_E : List (Ent R) := [(26, true, (fleet_isPath_s fleet_isPath specNo))]
noncomputable def fleet_right_X (x1 : Yard.Ctl) (k0 : Bool → Option R) : Option R :=
  fleet_isPath x1.path (fun y2 => bif y2 then (k0 (decide (x1.rel ≥ (0 : Int)))) else (k0 false))
theorem fleet_right_ok : Tied (R := R) tt (fleet_right_E fleet_isPath) noT false Tryd.f34 fleet_right_p fleet_right_q (fleet_right_rr (fleet_right_X fleet_isPath)) := fun x y k => by kernel_rfl
end
theorem fleet_right_EOk : EntOk (R := R) Tryd.prog (fleet_right_E (R := R) fleet_isPath) := .c (fleet_isPath_S_ok R) <| .n
noncomputable def fleet_right : fleet_right_ty R := fun x1 k0 => fleet_right_X fleet_isPath x1 k0
theorem fleet_right_S_ok (R : Type) : OkS Tryd.prog 34 (fleet_right_s (fleet_right (R := R))) := tie_ok TT mixed (fleet_right_EOk (R := R)) rfl rfl rfl rfl noT_ok (fleet_right_ok fleet_isPath)

/-! ### humpyard/walk.isPath -/
abbrev walk_isPath_ty (R : Type) : Type := (List Int) → (Bool → Option R) → Option R
abbrev walk_isPath_p : List Pat := [.leaf (.sl (.int .i64))]
abbrev walk_isPath_q : List HPat := []
noncomputable def walk_isPath_rr (fn : walk_isPath_ty R) : Run R walk_isPath_p walk_isPath_q := fun x y k => fn x.1 (fun q0 => k (.bool q0) [])
noncomputable def walk_isPath_s (fn : walk_isPath_ty R) := specBy walk_isPath_p walk_isPath_q (walk_isPath_rr fn)
abbrev walk_isPath_2_0_ty (R : Type) : Type := Nat → (List Int) → (List Int) → Int → Int → ((List Int) → Option R) → ((List Int) → Bool → Option R) → Option R
noncomputable def walk_isPath_2_0_h : Hint := { live := [0, 6, 7, 8], own := [], rows := [], cells := [], drop := [], out := [0, 2] }
abbrev walk_isPath_2_0_D : Type := (List Int) × (List Int) × Int × Int
noncomputable def walk_isPath_2_0_enc : walk_isPath_2_0_D → St := fun d => ⟨.sl (.int .i64) d.1 .no :: U 5 (.sl (.int .i64) d.2.1 .no :: .int .i64 d.2.2.1 :: .int .i64 d.2.2.2 :: U 20 ([])), []⟩
noncomputable def walk_isPath_2_0_x0 (K : Ex → St → Option R) (q0 : List Int) : Option R := K (.exit 0) ⟨.sl (.int .i64) q0 .no :: U 28 ([]), []⟩
noncomputable def walk_isPath_2_0_x1 (K : Ex → St → Option R) (q0 : List Int) (q1 : Bool) : Option R := K (.ret) ⟨.sl (.int .i64) q0 .no :: .undef :: .bool q1 :: U 26 ([]), []⟩
abbrev walk_isPath_2_0_p : List Pat := .leaf (.sl (.int .i64)) :: PU 5 (.leaf (.sl (.int .i64)) :: .leaf (.int .i64) :: .leaf (.int .i64) :: PU 20 ([]))
abbrev walk_isPath_2_0_q : List HPat := []
noncomputable def walk_isPath_2_0_f (x : Pat.dens walk_isPath_2_0_p) (y : HPat.dens walk_isPath_2_0_q) : Nat := (List.length x.1 + List.length x.2.2.2.2.2.2.1 + Int.natAbs x.2.2.2.2.2.2.2.1 + Int.natAbs ((t8 x).1) + 64)
noncomputable def walk_isPath_2_0_d (x : Pat.dens walk_isPath_2_0_p) (y : HPat.dens walk_isPath_2_0_q) : walk_isPath_2_0_D := (x.1, x.2.2.2.2.2.2.1, x.2.2.2.2.2.2.2.1, (t8 x).1)
noncomputable def walk_isPath_2_0_rr (L : walk_isPath_2_0_ty R) : LRun R walk_isPath_2_0_p walk_isPath_2_0_q := fun x y K => L (walk_isPath_2_0_f x y) x.1 x.2.2.2.2.2.2.1 x.2.2.2.2.2.2.2.1 ((t8 x).1) (walk_isPath_2_0_x0 K) (walk_isPath_2_0_x1 K)
section
variable (walk_isPath_2_0_L : walk_isPath_2_0_ty R)
noncomputable def walk_isPath_2_0_B (rec' : (List Int) → (List Int) → Int → Int → Option R) (x2 : List Int) (x3 : List Int) (x4 : Int) (x5 : Int) (e0 : (List Int) → Option R) (e1 : (List Int) → Bool → Option R) : Option R :=
  bif (decide (x5 < x4)) then (chk (decide ((0 : Int) ≤ x5) && decide (x5 < x3.length)) (bif (decide ((x3.getD x5.toNat (Ty.dflt (.int .i64))) < (0 : Int))) then (e1 x2 false) else (bif (!((decide ((x3.getD x5.toNat (Ty.dflt (.int .i64))) ≥ (1000 : Int))) == ((Int.tmod x5 2) == 1))) then (e1 x2 false) else (rec' x2 x3 x4 (IntKind.i64.wrap (x5 + 1)))))) else (e0 x2)
noncomputable def walk_isPath_2_0_s (K : Ex → St → Option R) (rc : walk_isPath_2_0_D → Option R) (d : walk_isPath_2_0_D) : Option R := walk_isPath_2_0_B (fun z0 z1 z2 z3 => rc (z0, z1, z2, z3)) d.1 d.2.1 d.2.2.1 d.2.2.2 (walk_isPath_2_0_x0 K) (walk_isPath_2_0_x1 K)
noncomputable def walk_isPath_T : Nat → Option (Hint × LSpec R) := fun i => match i with
  | 2 => some (walk_isPath_2_0_h, (loopBy walk_isPath_2_0_p walk_isPath_2_0_q (walk_isPath_2_0_rr walk_isPath_2_0_L) loopNo))
  | _ => none
theorem walk_isPath_2_0_B_ok (K : Ex → St → Option R) (rc : St → Option R) (d : walk_isPath_2_0_D) : roundOf tt (envL []) (walk_isPath_T walk_isPath_2_0_L) 0 ((loopsOf (codeOf Tryd.f67)).getD 0 .skip) walk_isPath_2_0_h (walk_isPath_2_0_enc d) rc K = walk_isPath_2_0_s K (fun d => rc (walk_isPath_2_0_enc d)) d := by kernel_rfl
noncomputable def walk_isPath_X (x1 : List Int) (k0 : Bool → Option R) : Option R :=
  walk_isPath_2_0_L (List.length x1 + List.length x1 + Int.natAbs (x1.length : Int) + Int.natAbs 0 + 64) x1 x1 (x1.length : Int) 0 (fun y7 => k0 ((Int.tmod (y7.length : Int) 2) == 1)) (fun y8 y9 => k0 y9)
theorem walk_isPath_ok : Tied (R := R) tt [] (walk_isPath_T walk_isPath_2_0_L) false Tryd.f67 walk_isPath_p walk_isPath_q (walk_isPath_rr (walk_isPath_X walk_isPath_2_0_L)) := fun x y k => by kernel_rfl
end
noncomputable def walk_isPath_2_0_L : walk_isPath_2_0_ty R
  | 0, _, _, _, _, _, _ => none
  | n + 1, x0', x1', x2', x3', e0, e1 => walk_isPath_2_0_B (fun x0' x1' x2' x3' => walk_isPath_2_0_L n x0' x1' x2' x3' e0 e1) x0' x1' x2' x3' e0 e1
noncomputable def walk_isPath_2_0_A (K : Ex → St → Option R) (n : Nat) (d : walk_isPath_2_0_D) : Option R := walk_isPath_2_0_L n d.1 d.2.1 d.2.2.1 d.2.2.2 (walk_isPath_2_0_x0 K) (walk_isPath_2_0_x1 K)
theorem walk_isPath_2_0_ok (other : LSpec R) (ho : LsOk tt (envL []) (walk_isPath_T (R := R) walk_isPath_2_0_L) 0 ((loopsOf (codeOf Tryd.f67)).getD 0 .skip) walk_isPath_2_0_h other) : LsOk tt (envL []) (walk_isPath_T (R := R) walk_isPath_2_0_L) 0 ((loopsOf (codeOf Tryd.f67)).getD 0 .skip) walk_isPath_2_0_h (loopBy walk_isPath_2_0_p walk_isPath_2_0_q (walk_isPath_2_0_rr (walk_isPath_2_0_L)) other) :=
  loopBy_tie (A := walk_isPath_2_0_A) ho (loop_tie walk_isPath_2_0_enc (walk_isPath_2_0_s) (walk_isPath_2_0_A) (fun _ _ => by kernel_rfl) (walk_isPath_2_0_B_ok walk_isPath_2_0_L) (fun _ _ _ => by kernel_rfl)) walk_isPath_2_0_f walk_isPath_2_0_d (fun _ _ => by kernel_rfl) (fun _ _ _ => by kernel_rfl)
noncomputable def walk_isPath : walk_isPath_ty R := fun x1 k0 => walk_isPath_X walk_isPath_2_0_L x1 k0
theorem walk_isPath_loops (R : Type) : ∀ a ∈ loopsOf (codeOf Tryd.f67), LoopOk tt (envL []) (walk_isPath_T (R := R) walk_isPath_2_0_L) 0 a := by
  refine loops_ok 1 (by kernel_rfl) fun i hi => ?_
  match i, hi with
  | 0, _ => exact loopOk_some (by kernel_rfl) (walk_isPath_2_0_ok _ loopNo_ok)
  | n + 1, hi => omega
theorem walk_isPath_S_ok (R : Type) : OkS Tryd.prog 67 (walk_isPath_s (walk_isPath (R := R))) := tie_ok TT mixed .n rfl rfl rfl rfl (walk_isPath_loops R) (walk_isPath_ok walk_isPath_2_0_L)

/-! ### humpyard/topic.Name -/
abbrev topic_Name_ty (R : Type) : Type := Str → (Bool → Option R) → Option R
abbrev topic_Name_p : List Pat := [.leaf (.str)]
abbrev topic_Name_q : List HPat := []
noncomputable def topic_Name_rr (fn : topic_Name_ty R) : Run R topic_Name_p topic_Name_q := fun x y k => fn x.1 (fun q0 => k (.bool q0) [])
noncomputable def topic_Name_s (fn : topic_Name_ty R) := specBy topic_Name_p topic_Name_q (topic_Name_rr fn)
section
noncomputable def topic_Name_E : List (Ent R) := [(64, true, (trimL_S R))]
noncomputable def topic_Name_X (x1 : Str) (k0 : Bool → Option R) : Option R :=
  chk (isAsc ([97, 98, 99, 100, 101, 102, 103, 104, 105, 106, 107, 108, 109, 110, 111, 112, 113, 114, 115, 116, 117, 118, 119, 120, 121, 122, 65, 66, 67, 68, 69, 70, 71, 72, 73, 74, 75, 76, 77, 78, 79, 80, 81, 82, 83, 84, 85, 86, 87, 88, 89, 90, 48, 49, 50, 51, 52, 53, 54, 55, 56, 57, 95, 46, 58, 45] : Str) && decide (([97, 98, 99, 100, 101, 102, 103, 104, 105, 106, 107, 108, 109, 110, 111, 112, 113, 114, 115, 116, 117, 118, 119, 120, 121, 122, 65, 66, 67, 68, 69, 70, 71, 72, 73, 74, 75, 76, 77, 78, 79, 80, 81, 82, 83, 84, 85, 86, 87, 88, 89, 90, 48, 49, 50, 51, 52, 53, 54, 55, 56, 57, 95, 46, 58, 45] : Str).length < 4294967281)) (bif ((trimL x1 ([97, 98, 99, 100, 101, 102, 103, 104, 105, 106, 107, 108, 109, 110, 111, 112, 113, 114, 115, 116, 117, 118, 119, 120, 121, 122, 65, 66, 67, 68, 69, 70, 71, 72, 73, 74, 75, 76, 77, 78, 79, 80, 81, 82, 83, 84, 85, 86, 87, 88, 89, 90, 48, 49, 50, 51, 52, 53, 54, 55, 56, 57, 95, 46, 58, 45] : Str)) == ([] : Str)) then (bif (!(x1 == ([] : Str))) then (k0 (decide ((x1.length : Int) ≤ (16 : Int)))) else (k0 false)) else (k0 false))
theorem topic_Name_ok : Tied (R := R) tt (topic_Name_E (R := R)) noT false Tryd.f54 topic_Name_p topic_Name_q (topic_Name_rr topic_Name_X) := fun x y k => by kernel_rfl
end
theorem topic_Name_EOk : EntOk (R := R) Tryd.prog (topic_Name_E (R := R)) := .p (trimL_ok) <| .n
noncomputable def topic_Name : topic_Name_ty R := fun x1 k0 => topic_Name_X x1 k0
theorem topic_Name_S_ok (R : Type) : OkS Tryd.prog 54 (topic_Name_s (topic_Name (R := R))) := tie_ok TT mixed (topic_Name_EOk (R := R)) rfl rfl rfl rfl noT_ok (topic_Name_ok)

/-! ### humpyard/order.num$1 -/
abbrev order_num_1_ty (R : Type) : Type := Int → (Bool → Option R) → Option R
abbrev order_num_1_p : List Pat := [.leaf (.int .i64)]
abbrev order_num_1_q : List HPat := []
noncomputable def order_num_1_rr (fn : order_num_1_ty R) : Run R order_num_1_p order_num_1_q := fun x y k => fn x.1 (fun q0 => k (.bool q0) [])
noncomputable def order_num_1_s (fn : order_num_1_ty R) := specBy order_num_1_p order_num_1_q (order_num_1_rr fn)
section
noncomputable def order_num_1_X (x1 : Int) (k0 : Bool → Option R) : Option R :=
  bif (decide (x1 < (0 : Int))) then (k0 true) else (k0 (decide (x1 > (1000000000 : Int))))
theorem order_num_1_ok : Tied (R := R) tt [] noT false Tryd.f78 order_num_1_p order_num_1_q (order_num_1_rr order_num_1_X) := fun x y k => by kernel_rfl
end
noncomputable def order_num_1 : order_num_1_ty R := fun x1 k0 => order_num_1_X x1 k0
theorem order_num_1_S_ok (R : Type) : OkS Tryd.prog 78 (order_num_1_s (order_num_1 (R := R))) := tie_ok TT mixed .n rfl rfl rfl rfl noT_ok (order_num_1_ok)

end Go.Proofs.YtolnaonmpohciaaDoor

/-
  Functions of the program as pure Lean functions, and the ties; printed by wip/tools/emit.py.
-/
set_option maxRecDepth 100000
namespace Go.Proofs.YtolnaonmpohciaaDoor
open Go Go.Yard
variable {R : Type}

/-! ### slices.IndexFunc[[]int,int] -/
abbrev slices_IndexFunc_intint_abbc_ty (R : Type) : Type := (List Int) → (Int → Option R) → Option R
abbrev slices_IndexFunc_intint_abbc_p : List Pat := [.leaf (.sl (.int .i64)), .leaf (.fn 78)]
abbrev slices_IndexFunc_intint_abbc_q : List HPat := []
noncomputable def slices_IndexFunc_intint_abbc_rr (fn : slices_IndexFunc_intint_abbc_ty R) : Run R slices_IndexFunc_intint_abbc_p slices_IndexFunc_intint_abbc_q := fun x y k => fn x.1 (fun q0 => k (.int .i64 q0) [])
noncomputable def slices_IndexFunc_intint_abbc_s (fn : slices_IndexFunc_intint_abbc_ty R) := specBy slices_IndexFunc_intint_abbc_p slices_IndexFunc_intint_abbc_q (slices_IndexFunc_intint_abbc_rr fn)
abbrev slices_IndexFunc_intint_abbc_2_0_ty (R : Type) : Type := Nat → (List Int) → Int → Int → (Option R) → (Int → Option R) → Option R
noncomputable def slices_IndexFunc_intint_abbc_2_0_h : Hint := { live := [0, 1, 7, 8], own := [], rows := [], cells := [], drop := [], out := [4] }
abbrev slices_IndexFunc_intint_abbc_2_0_D : Type := (List Int) × Int × Int
noncomputable def slices_IndexFunc_intint_abbc_2_0_enc : slices_IndexFunc_intint_abbc_2_0_D → St := fun d => ⟨.sl (.int .i64) d.1 .no :: .func 78 [] [] :: U 5 (.int .i64 d.2.1 :: .int .i64 d.2.2 :: U 10 ([])), []⟩
noncomputable def slices_IndexFunc_intint_abbc_2_0_x0 (K : Ex → St → Option R) : Option R := K (.exit 0) ⟨U 19 ([]), []⟩
noncomputable def slices_IndexFunc_intint_abbc_2_0_x1 (K : Ex → St → Option R) (q0 : Int) : Option R := K (.ret) ⟨U 4 (.int .i64 q0 :: U 14 ([])), []⟩
abbrev slices_IndexFunc_intint_abbc_2_0_p : List Pat := .leaf (.sl (.int .i64)) :: .leaf (.fn 78) :: PU 5 (.leaf (.int .i64) :: .leaf (.int .i64) :: PU 10 ([]))
abbrev slices_IndexFunc_intint_abbc_2_0_q : List HPat := []
noncomputable def slices_IndexFunc_intint_abbc_2_0_f (x : Pat.dens slices_IndexFunc_intint_abbc_2_0_p) (y : HPat.dens slices_IndexFunc_intint_abbc_2_0_q) : Nat := (List.length x.1 + Int.natAbs x.2.2.2.2.2.2.2.1 + Int.natAbs ((t8 x).1) + 64)
noncomputable def slices_IndexFunc_intint_abbc_2_0_d (x : Pat.dens slices_IndexFunc_intint_abbc_2_0_p) (y : HPat.dens slices_IndexFunc_intint_abbc_2_0_q) : slices_IndexFunc_intint_abbc_2_0_D := (x.1, x.2.2.2.2.2.2.2.1, (t8 x).1)
noncomputable def slices_IndexFunc_intint_abbc_2_0_rr (L : slices_IndexFunc_intint_abbc_2_0_ty R) : LRun R slices_IndexFunc_intint_abbc_2_0_p slices_IndexFunc_intint_abbc_2_0_q := fun x y K => L (slices_IndexFunc_intint_abbc_2_0_f x y) x.1 x.2.2.2.2.2.2.2.1 ((t8 x).1) (slices_IndexFunc_intint_abbc_2_0_x0 K) (slices_IndexFunc_intint_abbc_2_0_x1 K)
section
variable (order_num_1 : order_num_1_ty R) (slices_IndexFunc_intint_abbc_2_0_L : slices_IndexFunc_intint_abbc_2_0_ty R)
noncomputable def slices_IndexFunc_intint_abbc_E : List (Ent R) := [(78, true, (order_num_1_s order_num_1 specNo))]
noncomputable def slices_IndexFunc_intint_abbc_2_0_B (rec' : (List Int) → Int → Int → Option R) (x2 : List Int) (x3 : Int) (x4 : Int) (e0 : Option R) (e1 : Int → Option R) : Option R :=
  bif (decide (x4 < x3)) then (chk (decide ((0 : Int) ≤ x4) && decide (x4 < x2.length)) (order_num_1 (x2.getD x4.toNat (Ty.dflt (.int .i64))) (fun y5 => bif y5 then (e1 x4) else (rec' x2 x3 (IntKind.i64.wrap (x4 + 1)))))) else (e0)
noncomputable def slices_IndexFunc_intint_abbc_2_0_s (K : Ex → St → Option R) (rc : slices_IndexFunc_intint_abbc_2_0_D → Option R) (d : slices_IndexFunc_intint_abbc_2_0_D) : Option R := slices_IndexFunc_intint_abbc_2_0_B order_num_1 (fun z0 z1 z2 => rc (z0, z1, z2)) d.1 d.2.1 d.2.2 (slices_IndexFunc_intint_abbc_2_0_x0 K) (slices_IndexFunc_intint_abbc_2_0_x1 K)
noncomputable def slices_IndexFunc_intint_abbc_T : Nat → Option (Hint × LSpec R) := fun i => match i with
  | 2 => some (slices_IndexFunc_intint_abbc_2_0_h, (loopBy slices_IndexFunc_intint_abbc_2_0_p slices_IndexFunc_intint_abbc_2_0_q (slices_IndexFunc_intint_abbc_2_0_rr slices_IndexFunc_intint_abbc_2_0_L) loopNo))
  | _ => none
theorem slices_IndexFunc_intint_abbc_2_0_B_ok (K : Ex → St → Option R) (rc : St → Option R) (d : slices_IndexFunc_intint_abbc_2_0_D) : roundOf tt (envL (slices_IndexFunc_intint_abbc_E order_num_1)) (slices_IndexFunc_intint_abbc_T slices_IndexFunc_intint_abbc_2_0_L) 0 ((loopsOf (codeOf Tryd.f81)).getD 0 .skip) slices_IndexFunc_intint_abbc_2_0_h (slices_IndexFunc_intint_abbc_2_0_enc d) rc K = slices_IndexFunc_intint_abbc_2_0_s order_num_1 K (fun d => rc (slices_IndexFunc_intint_abbc_2_0_enc d)) d := by kernel_rfl
noncomputable def slices_IndexFunc_intint_abbc_X (x1 : List Int) (k0 : Int → Option R) : Option R :=
  slices_IndexFunc_intint_abbc_2_0_L (List.length x1 + Int.natAbs (x1.length : Int) + Int.natAbs 0 + 64) x1 (x1.length : Int) 0 (k0 (-1)) (fun y6 => k0 y6)
theorem slices_IndexFunc_intint_abbc_ok : Tied (R := R) tt (slices_IndexFunc_intint_abbc_E order_num_1) (slices_IndexFunc_intint_abbc_T slices_IndexFunc_intint_abbc_2_0_L) false Tryd.f81 slices_IndexFunc_intint_abbc_p slices_IndexFunc_intint_abbc_q (slices_IndexFunc_intint_abbc_rr (slices_IndexFunc_intint_abbc_X slices_IndexFunc_intint_abbc_2_0_L)) := fun x y k => by kernel_rfl
end
theorem slices_IndexFunc_intint_abbc_EOk : EntOk (R := R) Tryd.prog (slices_IndexFunc_intint_abbc_E (R := R) order_num_1) := .c (order_num_1_S_ok R) <| .n
noncomputable def slices_IndexFunc_intint_abbc_2_0_L : slices_IndexFunc_intint_abbc_2_0_ty R
  | 0, _, _, _, _, _ => none
  | n + 1, x0', x1', x2', e0, e1 => slices_IndexFunc_intint_abbc_2_0_B order_num_1 (fun x0' x1' x2' => slices_IndexFunc_intint_abbc_2_0_L n x0' x1' x2' e0 e1) x0' x1' x2' e0 e1
noncomputable def slices_IndexFunc_intint_abbc_2_0_A (K : Ex → St → Option R) (n : Nat) (d : slices_IndexFunc_intint_abbc_2_0_D) : Option R := slices_IndexFunc_intint_abbc_2_0_L n d.1 d.2.1 d.2.2 (slices_IndexFunc_intint_abbc_2_0_x0 K) (slices_IndexFunc_intint_abbc_2_0_x1 K)
theorem slices_IndexFunc_intint_abbc_2_0_ok (other : LSpec R) (ho : LsOk tt (envL (slices_IndexFunc_intint_abbc_E (R := R) order_num_1)) (slices_IndexFunc_intint_abbc_T (R := R) slices_IndexFunc_intint_abbc_2_0_L) 0 ((loopsOf (codeOf Tryd.f81)).getD 0 .skip) slices_IndexFunc_intint_abbc_2_0_h other) : LsOk tt (envL (slices_IndexFunc_intint_abbc_E (R := R) order_num_1)) (slices_IndexFunc_intint_abbc_T (R := R) slices_IndexFunc_intint_abbc_2_0_L) 0 ((loopsOf (codeOf Tryd.f81)).getD 0 .skip) slices_IndexFunc_intint_abbc_2_0_h (loopBy slices_IndexFunc_intint_abbc_2_0_p slices_IndexFunc_intint_abbc_2_0_q (slices_IndexFunc_intint_abbc_2_0_rr (slices_IndexFunc_intint_abbc_2_0_L)) other) :=
  loopBy_tie (A := slices_IndexFunc_intint_abbc_2_0_A) ho (loop_tie slices_IndexFunc_intint_abbc_2_0_enc (slices_IndexFunc_intint_abbc_2_0_s order_num_1) (slices_IndexFunc_intint_abbc_2_0_A) (fun _ _ => by kernel_rfl) (slices_IndexFunc_intint_abbc_2_0_B_ok order_num_1 slices_IndexFunc_intint_abbc_2_0_L) (fun _ _ _ => by kernel_rfl)) slices_IndexFunc_intint_abbc_2_0_f slices_IndexFunc_intint_abbc_2_0_d (fun _ _ => by kernel_rfl) (fun _ _ _ => by kernel_rfl)
noncomputable def slices_IndexFunc_intint_abbc : slices_IndexFunc_intint_abbc_ty R := fun x1 k0 => slices_IndexFunc_intint_abbc_X slices_IndexFunc_intint_abbc_2_0_L x1 k0
theorem slices_IndexFunc_intint_abbc_loops (R : Type) : ∀ a ∈ loopsOf (codeOf Tryd.f81), LoopOk tt (envL (slices_IndexFunc_intint_abbc_E (R := R) order_num_1)) (slices_IndexFunc_intint_abbc_T (R := R) slices_IndexFunc_intint_abbc_2_0_L) 0 a := by
  refine loops_ok 1 (by kernel_rfl) fun i hi => ?_
  match i, hi with
  | 0, _ => exact loopOk_some (by kernel_rfl) (slices_IndexFunc_intint_abbc_2_0_ok _ loopNo_ok)
  | n + 1, hi => omega
theorem slices_IndexFunc_intint_abbc_S_ok (R : Type) : OkS Tryd.prog 81 (slices_IndexFunc_intint_abbc_s (slices_IndexFunc_intint_abbc (R := R))) := tie_ok TT mixed (slices_IndexFunc_intint_abbc_EOk (R := R)) rfl rfl rfl rfl (slices_IndexFunc_intint_abbc_loops R) (slices_IndexFunc_intint_abbc_ok order_num_1 slices_IndexFunc_intint_abbc_2_0_L)

/-! ### slices.ContainsFunc[[]int,int] -/
abbrev slices_ContainsFunc_intint_abbc_ty (R : Type) : Type := (List Int) → (Bool → Option R) → Option R
abbrev slices_ContainsFunc_intint_abbc_p : List Pat := [.leaf (.sl (.int .i64)), .leaf (.fn 78)]
abbrev slices_ContainsFunc_intint_abbc_q : List HPat := []
noncomputable def slices_ContainsFunc_intint_abbc_rr (fn : slices_ContainsFunc_intint_abbc_ty R) : Run R slices_ContainsFunc_intint_abbc_p slices_ContainsFunc_intint_abbc_q := fun x y k => fn x.1 (fun q0 => k (.bool q0) [])
noncomputable def slices_ContainsFunc_intint_abbc_s (fn : slices_ContainsFunc_intint_abbc_ty R) := specBy slices_ContainsFunc_intint_abbc_p slices_ContainsFunc_intint_abbc_q (slices_ContainsFunc_intint_abbc_rr fn)
section
variable (slices_IndexFunc_intint_abbc : slices_IndexFunc_intint_abbc_ty R)
noncomputable def slices_ContainsFunc_intint_abbc_E : List (Ent R) := [(81, true, (slices_IndexFunc_intint_abbc_s slices_IndexFunc_intint_abbc specNo))]
noncomputable def slices_ContainsFunc_intint_abbc_X (x1 : List Int) (k0 : Bool → Option R) : Option R :=
  slices_IndexFunc_intint_abbc x1 (fun y2 => k0 (decide (y2 ≥ (0 : Int))))
theorem slices_ContainsFunc_intint_abbc_ok : Tied (R := R) tt (slices_ContainsFunc_intint_abbc_E slices_IndexFunc_intint_abbc) noT false Tryd.f77 slices_ContainsFunc_intint_abbc_p slices_ContainsFunc_intint_abbc_q (slices_ContainsFunc_intint_abbc_rr (slices_ContainsFunc_intint_abbc_X slices_IndexFunc_intint_abbc)) := fun x y k => by kernel_rfl
end
theorem slices_ContainsFunc_intint_abbc_EOk : EntOk (R := R) Tryd.prog (slices_ContainsFunc_intint_abbc_E (R := R) slices_IndexFunc_intint_abbc) := .c (slices_IndexFunc_intint_abbc_S_ok R) <| .n
noncomputable def slices_ContainsFunc_intint_abbc : slices_ContainsFunc_intint_abbc_ty R := fun x1 k0 => slices_ContainsFunc_intint_abbc_X slices_IndexFunc_intint_abbc x1 k0
theorem slices_ContainsFunc_intint_abbc_S_ok (R : Type) : OkS Tryd.prog 77 (slices_ContainsFunc_intint_abbc_s (slices_ContainsFunc_intint_abbc (R := R))) := tie_ok TT mixed (slices_ContainsFunc_intint_abbc_EOk (R := R)) rfl rfl rfl rfl noT_ok (slices_ContainsFunc_intint_abbc_ok slices_IndexFunc_intint_abbc)

/-! ### humpyard/order.num -/
abbrev order_num_ty (R : Type) : Type := (List Int) → (Bool → Option R) → Option R
abbrev order_num_p : List Pat := [.leaf (.sl (.int .i64))]
abbrev order_num_q : List HPat := []
noncomputable def order_num_rr (fn : order_num_ty R) : Run R order_num_p order_num_q := fun x y k => fn x.1 (fun q0 => k (.bool q0) [])
noncomputable def order_num_s (fn : order_num_ty R) := specBy order_num_p order_num_q (order_num_rr fn)
section
variable (slices_ContainsFunc_intint_abbc : slices_ContainsFunc_intint_abbc_ty R)
noncomputable def order_num_E : List (Ent R) := [(77, true, (slices_ContainsFunc_intint_abbc_s slices_ContainsFunc_intint_abbc specNo))]
noncomputable def order_num_X (x1 : List Int) (k0 : Bool → Option R) : Option R :=
  slices_ContainsFunc_intint_abbc x1 (fun y2 => k0 (!y2))
theorem order_num_ok : Tied (R := R) tt (order_num_E slices_ContainsFunc_intint_abbc) noT false Tryd.f73 order_num_p order_num_q (order_num_rr (order_num_X slices_ContainsFunc_intint_abbc)) := fun x y k => by kernel_rfl
end
theorem order_num_EOk : EntOk (R := R) Tryd.prog (order_num_E (R := R) slices_ContainsFunc_intint_abbc) := .c (slices_ContainsFunc_intint_abbc_S_ok R) <| .n
noncomputable def order_num : order_num_ty R := fun x1 k0 => order_num_X slices_ContainsFunc_intint_abbc x1 k0
theorem order_num_S_ok (R : Type) : OkS Tryd.prog 73 (order_num_s (order_num (R := R))) := tie_ok TT mixed (order_num_EOk (R := R)) rfl rfl rfl rfl noT_ok (order_num_ok slices_ContainsFunc_intint_abbc)

/-! ### humpyard/order.Right -/
abbrev order_Right_ty (R : Type) : Type := Order → (Bool → Option R) → Option R
abbrev order_Right_p : List Pat := [.agg [.int .i64, .str, .int .i64, .int .i64, .sl .stop, .sl .way]]
abbrev order_Right_q : List HPat := []
noncomputable def order_Right_rr (fn : order_Right_ty R) : Run R order_Right_p order_Right_q := fun x y k => fn (⟨x.1.1, x.1.2.1, x.1.2.2.1, x.1.2.2.2.1, x.1.2.2.2.2.1, x.1.2.2.2.2.2.1⟩ : Order) (fun q0 => k (.bool q0) [])
noncomputable def order_Right_s (fn : order_Right_ty R) := specBy order_Right_p order_Right_q (order_Right_rr fn)
abbrev order_Right_8_0_ty (R : Type) : Type := Nat → (List Yard.Way) → Int → Int → Order → (Option R) → (Bool → Option R) → Option R
noncomputable def order_Right_8_0_h : Hint := { live := [1, 66, 67, 68], own := [], rows := [], cells := [], drop := [], out := [2] }
abbrev order_Right_8_0_D : Type := (List Yard.Way) × Int × Int × Order
noncomputable def order_Right_8_0_enc : order_Right_8_0_D → St := fun d => ⟨.undef :: .ptr 0 0 :: U 64 (.sl .way d.1 .no :: .int .i64 d.2.1 :: .int .i64 d.2.2.1 :: U 59 ([])), [.cells [.int .i64 d.2.2.2.header, .str d.2.2.2.vehicle, .int .i64 d.2.2.2.order, .int .i64 d.2.2.2.update, .sl .stop d.2.2.2.nodes .no, .sl .way d.2.2.2.edges .no]]⟩
noncomputable def order_Right_8_0_x0 (K : Ex → St → Option R) : Option R := K (.exit 0) ⟨U 128 ([]), []⟩
noncomputable def order_Right_8_0_x1 (K : Ex → St → Option R) (q0 : Bool) : Option R := K (.ret) ⟨U 2 (.bool q0 :: U 125 ([])), []⟩
abbrev order_Right_8_0_p : List Pat := .leaf (.undef) :: .leaf (.ptr 0 0) :: PU 64 (.leaf (.sl .way) :: .leaf (.int .i64) :: .leaf (.int .i64) :: PU 59 ([]))
abbrev order_Right_8_0_q : List HPat := [.cells [.int .i64, .str, .int .i64, .int .i64, .sl .stop, .sl .way]]
noncomputable def order_Right_8_0_f (x : Pat.dens order_Right_8_0_p) (y : HPat.dens order_Right_8_0_q) : Nat := (List.length ((t8 (t8 (t8 (t8 (t8 (t8 (t8 (t8 x)))))))).2.2.1) + Int.natAbs ((t8 (t8 (t8 (t8 (t8 (t8 (t8 (t8 x)))))))).2.2.2.1) + Int.natAbs ((t8 (t8 (t8 (t8 (t8 (t8 (t8 (t8 x)))))))).2.2.2.2.1) + Order.fu (⟨y.1.1, y.1.2.1, y.1.2.2.1, y.1.2.2.2.1, y.1.2.2.2.2.1, y.1.2.2.2.2.2.1⟩ : Order) + 64)
noncomputable def order_Right_8_0_d (x : Pat.dens order_Right_8_0_p) (y : HPat.dens order_Right_8_0_q) : order_Right_8_0_D := ((t8 (t8 (t8 (t8 (t8 (t8 (t8 (t8 x)))))))).2.2.1, (t8 (t8 (t8 (t8 (t8 (t8 (t8 (t8 x)))))))).2.2.2.1, (t8 (t8 (t8 (t8 (t8 (t8 (t8 (t8 x)))))))).2.2.2.2.1, (⟨y.1.1, y.1.2.1, y.1.2.2.1, y.1.2.2.2.1, y.1.2.2.2.2.1, y.1.2.2.2.2.2.1⟩ : Order))
noncomputable def order_Right_8_0_rr (L : order_Right_8_0_ty R) : LRun R order_Right_8_0_p order_Right_8_0_q := fun x y K => L (order_Right_8_0_f x y) ((t8 (t8 (t8 (t8 (t8 (t8 (t8 (t8 x)))))))).2.2.1) ((t8 (t8 (t8 (t8 (t8 (t8 (t8 (t8 x)))))))).2.2.2.1) ((t8 (t8 (t8 (t8 (t8 (t8 (t8 (t8 x)))))))).2.2.2.2.1) (⟨y.1.1, y.1.2.1, y.1.2.2.1, y.1.2.2.2.1, y.1.2.2.2.2.1, y.1.2.2.2.2.2.1⟩ : Order) (order_Right_8_0_x0 K) (order_Right_8_0_x1 K)
section
variable (order_num : order_num_ty R) (topic_Name : topic_Name_ty R) (order_Right_8_0_L : order_Right_8_0_ty R)
noncomputable def order_Right_E : List (Ent R) := [(73, true, (order_num_s order_num specNo)), (54, true, (topic_Name_s topic_Name specNo))]
noncomputable def order_Right_8_0_B (rec' : (List Yard.Way) → Int → Int → Order → Option R) (x6 : List Yard.Way) (x7 : Int) (x8 : Int) (x9 : Order) (e0 : Option R) (e1 : Bool → Option R) : Option R :=
  bif (decide (x8 < x7)) then (chk (decide ((0 : Int) ≤ x8) && decide (x8 < x6.length)) (chk (decide ((0 : Int) ≤ x8) && decide (x8 < x9.nodes.length)) (chk (decide ((0 : Int) ≤ (IntKind.i64.wrap (x8 + 1))) && decide ((IntKind.i64.wrap (x8 + 1)) < x9.nodes.length)) (order_num ([(x6.getD x8.toNat (Ty.dflt .way)).edge, (x6.getD x8.toNat (Ty.dflt .way)).seq, (x9.nodes.getD (IntKind.i64.wrap (x8 + 1)).toNat (Ty.dflt .stop)).node, (x9.nodes.getD (IntKind.i64.wrap (x8 + 1)).toNat (Ty.dflt .stop)).seq] : List Int) (fun y10 => bif (!y10) then (e1 false) else (bif ((x6.getD x8.toNat (Ty.dflt .way)).seq != (IntKind.i64.wrap ((x9.nodes.getD x8.toNat (Ty.dflt .stop)).seq + 1))) then (e1 false) else (bif ((x9.nodes.getD (IntKind.i64.wrap (x8 + 1)).toNat (Ty.dflt .stop)).seq != (IntKind.i64.wrap ((x6.getD x8.toNat (Ty.dflt .way)).seq + 1))) then (e1 false) else (bif (!((x6.getD x8.toNat (Ty.dflt .way)).released == (x9.nodes.getD (IntKind.i64.wrap (x8 + 1)).toNat (Ty.dflt .stop)).released)) then (e1 false) else (bif (x9.nodes.getD (IntKind.i64.wrap (x8 + 1)).toNat (Ty.dflt .stop)).released then (bif (!(x9.nodes.getD x8.toNat (Ty.dflt .stop)).released) then (e1 false) else (rec' x6 x7 (IntKind.i64.wrap (x8 + 1)) x9)) else (rec' x6 x7 (IntKind.i64.wrap (x8 + 1)) x9)))))))))) else (e0)
noncomputable def order_Right_8_0_s (K : Ex → St → Option R) (rc : order_Right_8_0_D → Option R) (d : order_Right_8_0_D) : Option R := order_Right_8_0_B order_num (fun z0 z1 z2 z3 => rc (z0, z1, z2, z3)) d.1 d.2.1 d.2.2.1 d.2.2.2 (order_Right_8_0_x0 K) (order_Right_8_0_x1 K)
noncomputable def order_Right_T : Nat → Option (Hint × LSpec R) := fun i => match i with
  | 8 => some (order_Right_8_0_h, (loopBy order_Right_8_0_p order_Right_8_0_q (order_Right_8_0_rr order_Right_8_0_L) loopNo))
  | _ => none
theorem order_Right_8_0_B_ok (K : Ex → St → Option R) (rc : St → Option R) (d : order_Right_8_0_D) : roundOf tt (envL (order_Right_E order_num topic_Name)) (order_Right_T order_Right_8_0_L) 0 ((loopsOf (codeOf Tryd.f68)).getD 0 .skip) order_Right_8_0_h (order_Right_8_0_enc d) rc K = order_Right_8_0_s order_num K (fun d => rc (order_Right_8_0_enc d)) d := by kernel_rfl
noncomputable def order_Right_X (x1 : Order) (k0 : Bool → Option R) : Option R :=
  topic_Name x1.vehicle (fun y2 => bif (!y2) then (k0 false) else (order_num ([x1.header, x1.order, x1.update] : List Int) (fun y3 => bif (!y3) then (k0 false) else (bif (decide ((x1.nodes.length : Int) < (1 : Int))) then (k0 false) else (bif (decide ((x1.nodes.length : Int) > (64 : Int))) then (k0 false) else (bif ((x1.edges.length : Int) != (IntKind.i64.wrap ((x1.nodes.length : Int) - 1))) then (k0 false) else (chk (decide ((0 : Int) < x1.nodes.length)) (bif ((Int.tmod (x1.nodes.getD 0 (Ty.dflt .stop)).seq 2) != 0) then (k0 false) else (bif (!(x1.nodes.getD 0 (Ty.dflt .stop)).released) then (k0 false) else (order_num ([(x1.nodes.getD 0 (Ty.dflt .stop)).node, (x1.nodes.getD 0 (Ty.dflt .stop)).seq] : List Int) (fun y5 => bif (!y5) then (k0 false) else (order_Right_8_0_L (List.length x1.edges + Int.natAbs (x1.edges.length : Int) + Int.natAbs 0 + Order.fu x1 + 64) x1.edges (x1.edges.length : Int) 0 x1 (k0 true) (fun y12 => k0 y12)))))))))))))
theorem order_Right_ok : Tied (R := R) tt (order_Right_E order_num topic_Name) (order_Right_T order_Right_8_0_L) false Tryd.f68 order_Right_p order_Right_q (order_Right_rr (order_Right_X order_num topic_Name order_Right_8_0_L)) := fun x y k => by kernel_rfl
end
theorem order_Right_EOk : EntOk (R := R) Tryd.prog (order_Right_E (R := R) order_num topic_Name) := .c (order_num_S_ok R) <| .c (topic_Name_S_ok R) <| .n
noncomputable def order_Right_8_0_L : order_Right_8_0_ty R
  | 0, _, _, _, _, _, _ => none
  | n + 1, x0', x1', x2', x3', e0, e1 => order_Right_8_0_B order_num (fun x0' x1' x2' x3' => order_Right_8_0_L n x0' x1' x2' x3' e0 e1) x0' x1' x2' x3' e0 e1
noncomputable def order_Right_8_0_A (K : Ex → St → Option R) (n : Nat) (d : order_Right_8_0_D) : Option R := order_Right_8_0_L n d.1 d.2.1 d.2.2.1 d.2.2.2 (order_Right_8_0_x0 K) (order_Right_8_0_x1 K)
theorem order_Right_8_0_ok (other : LSpec R) (ho : LsOk tt (envL (order_Right_E (R := R) order_num topic_Name)) (order_Right_T (R := R) order_Right_8_0_L) 0 ((loopsOf (codeOf Tryd.f68)).getD 0 .skip) order_Right_8_0_h other) : LsOk tt (envL (order_Right_E (R := R) order_num topic_Name)) (order_Right_T (R := R) order_Right_8_0_L) 0 ((loopsOf (codeOf Tryd.f68)).getD 0 .skip) order_Right_8_0_h (loopBy order_Right_8_0_p order_Right_8_0_q (order_Right_8_0_rr (order_Right_8_0_L)) other) :=
  loopBy_tie (A := order_Right_8_0_A) ho (loop_tie order_Right_8_0_enc (order_Right_8_0_s order_num) (order_Right_8_0_A) (fun _ _ => by kernel_rfl) (order_Right_8_0_B_ok order_num topic_Name order_Right_8_0_L) (fun _ _ _ => by kernel_rfl)) order_Right_8_0_f order_Right_8_0_d (fun _ _ => by kernel_rfl) (fun _ _ _ => by kernel_rfl)
noncomputable def order_Right : order_Right_ty R := fun x1 k0 => order_Right_X order_num topic_Name order_Right_8_0_L x1 k0
theorem order_Right_loops (R : Type) : ∀ a ∈ loopsOf (codeOf Tryd.f68), LoopOk tt (envL (order_Right_E (R := R) order_num topic_Name)) (order_Right_T (R := R) order_Right_8_0_L) 0 a := by
  refine loops_ok 1 (by kernel_rfl) fun i hi => ?_
  match i, hi with
  | 0, _ => exact loopOk_some (by kernel_rfl) (order_Right_8_0_ok _ loopNo_ok)
  | n + 1, hi => omega
theorem order_Right_S_ok (R : Type) : OkS Tryd.prog 68 (order_Right_s (order_Right (R := R))) := tie_ok TT mixed (order_Right_EOk (R := R)) rfl rfl rfl rfl (order_Right_loops R) (order_Right_ok order_num topic_Name order_Right_8_0_L)

/-! ### humpyard/walk.Order -/
abbrev walk_Order_ty (R : Type) : Type := Order → (List Int) → Int → Int → (Order → Bool → Option R) → Option R
abbrev walk_Order_p : List Pat := [.agg [.int .i64, .str, .int .i64, .int .i64, .sl .stop, .sl .way], .leaf (.sl (.int .i64)), .leaf (.int .i64), .leaf (.int .i64)]
abbrev walk_Order_q : List HPat := []
noncomputable def walk_Order_rr (fn : walk_Order_ty R) : Run R walk_Order_p walk_Order_q := fun x y k => fn (⟨x.1.1, x.1.2.1, x.1.2.2.1, x.1.2.2.2.1, x.1.2.2.2.2.1, x.1.2.2.2.2.2.1⟩ : Order) x.2.1 x.2.2.1 x.2.2.2.1 (fun q0 q1 => k (.tuple [.agg [.int .i64 q0.header, .str q0.vehicle, .int .i64 q0.order, .int .i64 q0.update, .sl .stop q0.nodes .no, .sl .way q0.edges .no], .bool q1]) [])
noncomputable def walk_Order_s (fn : walk_Order_ty R) := specBy walk_Order_p walk_Order_q (walk_Order_rr fn)
abbrev walk_Order_6_0_ty (R : Type) : Type := Nat → Int → Int → (List Int) → Int → Int → Int → Str → Int → Int → Int → Str → Int → Int → (List Stop) → (List Yard.Way) → (Int → Str → Int → Int → Int → Str → Int → Int → (List Stop) → (List Yard.Way) → Option R) → Option R
noncomputable def walk_Order_6_0_h : Hint := { live := [2, 3, 8, 10, 25, 26, 27], own := [], rows := [], cells := [(1, 5, .way, false), (1, 4, .stop, false)], drop := [], out := [8, 9, 10] }
abbrev walk_Order_6_0_D : Type := Int × Int × (List Int) × Int × Int × Int × Str × Int × Int × Int × Str × Int × Int × (List Stop) × (List Yard.Way)
noncomputable def walk_Order_6_0_enc : walk_Order_6_0_D → St := fun d => ⟨U 2 (.int .i64 d.1 :: .int .i64 d.2.1 :: U 4 (.ptr 0 0 :: .undef :: .ptr 1 0 :: U 14 (.sl (.int .i64) d.2.2.1 .no :: .int .i64 d.2.2.2.1 :: .int .i64 d.2.2.2.2.1 :: U 44 ([])))), [.cells [.int .i64 d.2.2.2.2.2.1, .str d.2.2.2.2.2.2.1, .int .i64 d.2.2.2.2.2.2.2.1, .int .i64 d.2.2.2.2.2.2.2.2.1, .nilsl, .nilsl], .cells [.int .i64 d.2.2.2.2.2.2.2.2.2.1, .str d.2.2.2.2.2.2.2.2.2.2.1, .int .i64 d.2.2.2.2.2.2.2.2.2.2.2.1, .int .i64 d.2.2.2.2.2.2.2.2.2.2.2.2.1, .sl .stop d.2.2.2.2.2.2.2.2.2.2.2.2.2.1 (.own 2), .sl .way d.2.2.2.2.2.2.2.2.2.2.2.2.2.2 (.own 3)], .tok, .tok]⟩
noncomputable def walk_Order_6_0_x0 (K : Ex → St → Option R) (q0 : Int) (q1 : Str) (q2 : Int) (q3 : Int) (q4 : Int) (q5 : Str) (q6 : Int) (q7 : Int) (q8 : List Stop) (q9 : List Yard.Way) : Option R := K (.exit 0) ⟨U 8 (.ptr 0 0 :: .undef :: .ptr 1 0 :: U 61 ([])), [.cells [.int .i64 q0, .str q1, .int .i64 q2, .int .i64 q3, .nilsl, .nilsl], .cells [.int .i64 q4, .str q5, .int .i64 q6, .int .i64 q7, .sl .stop q8 (.own 2), .sl .way q9 (.own 3)], .tok, .tok]⟩
abbrev walk_Order_6_0_p : List Pat := PU 2 (.leaf (.int .i64) :: .leaf (.int .i64) :: PU 4 (.leaf (.ptr 0 0) :: .leaf (.undef) :: .leaf (.ptr 1 0) :: PU 14 (.leaf (.sl (.int .i64)) :: .leaf (.int .i64) :: .leaf (.int .i64) :: PU 44 ([]))))
abbrev walk_Order_6_0_q : List HPat := [.cells [.int .i64, .str, .int .i64, .int .i64, .nilsl, .nilsl], .cells [.int .i64, .str, .int .i64, .int .i64, .slo .stop 2, .slo .way 3], .tok, .tok]
noncomputable def walk_Order_6_0_f (x : Pat.dens walk_Order_6_0_p) (y : HPat.dens walk_Order_6_0_q) : Nat := (Int.natAbs x.2.2.1 + Int.natAbs x.2.2.2.1 + List.length ((t8 (t8 (t8 x))).2.1) + Int.natAbs ((t8 (t8 (t8 x))).2.2.1) + Int.natAbs ((t8 (t8 (t8 x))).2.2.2.1) + Int.natAbs y.1.1 + List.length y.1.2.1 + Int.natAbs y.1.2.2.1 + Int.natAbs y.1.2.2.2.1 + Int.natAbs y.2.1.1 + List.length y.2.1.2.1 + Int.natAbs y.2.1.2.2.1 + Int.natAbs y.2.1.2.2.2.1 + List.length y.2.1.2.2.2.2.1 + List.length y.2.1.2.2.2.2.2.1 + 64)
noncomputable def walk_Order_6_0_d (x : Pat.dens walk_Order_6_0_p) (y : HPat.dens walk_Order_6_0_q) : walk_Order_6_0_D := (x.2.2.1, x.2.2.2.1, (t8 (t8 (t8 x))).2.1, (t8 (t8 (t8 x))).2.2.1, (t8 (t8 (t8 x))).2.2.2.1, y.1.1, y.1.2.1, y.1.2.2.1, y.1.2.2.2.1, y.2.1.1, y.2.1.2.1, y.2.1.2.2.1, y.2.1.2.2.2.1, y.2.1.2.2.2.2.1, y.2.1.2.2.2.2.2.1)
noncomputable def walk_Order_6_0_rr (L : walk_Order_6_0_ty R) : LRun R walk_Order_6_0_p walk_Order_6_0_q := fun x y K => L (walk_Order_6_0_f x y) x.2.2.1 x.2.2.2.1 ((t8 (t8 (t8 x))).2.1) ((t8 (t8 (t8 x))).2.2.1) ((t8 (t8 (t8 x))).2.2.2.1) y.1.1 y.1.2.1 y.1.2.2.1 y.1.2.2.2.1 y.2.1.1 y.2.1.2.1 y.2.1.2.2.1 y.2.1.2.2.2.1 y.2.1.2.2.2.2.1 y.2.1.2.2.2.2.2.1 (walk_Order_6_0_x0 K)
section
variable (order_Right : order_Right_ty R) (walk_isPath : walk_isPath_ty R) (walk_Order_6_0_L : walk_Order_6_0_ty R)
noncomputable def walk_Order_E : List (Ent R) := [(68, true, (order_Right_s order_Right specNo)), (67, true, (walk_isPath_s walk_isPath specNo))]
noncomputable def walk_Order_6_0_B (rec' : Int → Int → (List Int) → Int → Int → Int → Str → Int → Int → Int → Str → Int → Int → (List Stop) → (List Yard.Way) → Option R) (x6 : Int) (x7 : Int) (x8 : List Int) (x9 : Int) (x10 : Int) (x11 : Int) (x12 : Str) (x13 : Int) (x14 : Int) (x15 : Int) (x16 : Str) (x17 : Int) (x18 : Int) (x19 : List Stop) (x20 : List Yard.Way) (e0 : Int → Str → Int → Int → Int → Str → Int → Int → (List Stop) → (List Yard.Way) → Option R) : Option R :=
  bif (decide (x10 < x9)) then (chk (decide ((0 : Int) ≤ x10) && decide (x10 < x8.length)) (bif ((Int.tmod x10 2) == 1) then (chk (decide ((x20.length + 1) * 24 ≤ 140737488355328)) (rec' x6 x7 x8 x9 (IntKind.i64.wrap (x10 + 1)) x11 x12 x13 x14 x15 x16 x17 x18 x19 (x20 ++ ([(⟨(IntKind.i64.wrap ((x8.getD x10.toNat (Ty.dflt (.int .i64))) - 1000)), (IntKind.i64.wrap (x6 + x10)), (decide ((IntKind.i64.wrap (x10 - (IntKind.i64.wrap (Int.tdiv x10 2)))) < x7))⟩ : Yard.Way)] : List Yard.Way)))) else (chk (decide ((x19.length + 1) * 24 ≤ 140737488355328)) (rec' x6 x7 x8 x9 (IntKind.i64.wrap (x10 + 1)) x11 x12 x13 x14 x15 x16 x17 x18 (x19 ++ ([(⟨(x8.getD x10.toNat (Ty.dflt (.int .i64))), (IntKind.i64.wrap (x6 + x10)), (decide ((IntKind.i64.wrap (x10 - (IntKind.i64.wrap (Int.tdiv x10 2)))) < x7))⟩ : Stop)] : List Stop)) x20)))) else (e0 x11 x12 x13 x14 x15 x16 x17 x18 x19 x20)
noncomputable def walk_Order_6_0_s (K : Ex → St → Option R) (rc : walk_Order_6_0_D → Option R) (d : walk_Order_6_0_D) : Option R := walk_Order_6_0_B (fun z0 z1 z2 z3 z4 z5 z6 z7 z8 z9 z10 z11 z12 z13 z14 => rc (z0, z1, z2, z3, z4, z5, z6, z7, z8, z9, z10, z11, z12, z13, z14)) d.1 d.2.1 d.2.2.1 d.2.2.2.1 d.2.2.2.2.1 d.2.2.2.2.2.1 d.2.2.2.2.2.2.1 d.2.2.2.2.2.2.2.1 d.2.2.2.2.2.2.2.2.1 d.2.2.2.2.2.2.2.2.2.1 d.2.2.2.2.2.2.2.2.2.2.1 d.2.2.2.2.2.2.2.2.2.2.2.1 d.2.2.2.2.2.2.2.2.2.2.2.2.1 d.2.2.2.2.2.2.2.2.2.2.2.2.2.1 d.2.2.2.2.2.2.2.2.2.2.2.2.2.2 (walk_Order_6_0_x0 K)
noncomputable def walk_Order_T : Nat → Option (Hint × LSpec R) := fun i => match i with
  | 6 => some (walk_Order_6_0_h, (loopBy walk_Order_6_0_p walk_Order_6_0_q (walk_Order_6_0_rr walk_Order_6_0_L) loopNo))
  | _ => none
theorem walk_Order_6_0_B_ok (K : Ex → St → Option R) (rc : St → Option R) (d : walk_Order_6_0_D) : roundOf tt (envL (walk_Order_E order_Right walk_isPath)) (walk_Order_T walk_Order_6_0_L) 0 ((loopsOf (codeOf Tryd.f62)).getD 0 .skip) walk_Order_6_0_h (walk_Order_6_0_enc d) rc K = walk_Order_6_0_s K (fun d => rc (walk_Order_6_0_enc d)) d := by kernel_rfl
noncomputable def walk_Order_X (x1 : Order) (x2 : List Int) (x3 : Int) (x4 : Int) (k0 : Order → Bool → Option R) : Option R :=
  walk_isPath x2 (fun y5 => bif (!y5) then (k0 (⟨0, ([] : Str), 0, 0, ([] : List Stop), ([] : List Yard.Way)⟩ : Order) false) else (chk (decide ((0 : Int) ≤ (min (x2.length : Int) 127)) && decide ((min (x2.length : Int) 127) ≤ x2.length)) (chk (decide ((0 : Int) ≤ (min (x2.length : Int) 127))) (walk_Order_6_0_L (Int.natAbs x3 + Int.natAbs x4 + List.length ((x2.drop 0).take ((min (x2.length : Int) 127).toNat - 0)) + Int.natAbs (((x2.drop 0).take ((min (x2.length : Int) 127).toNat - 0)).length : Int) + Int.natAbs 0 + Int.natAbs 0 + List.length ([] : Str) + Int.natAbs 0 + Int.natAbs 0 + Int.natAbs x1.header + List.length x1.vehicle + Int.natAbs x1.order + Int.natAbs x1.update + List.length ([] : List Stop) + List.length ([] : List Yard.Way) + 64) x3 x4 ((x2.drop 0).take ((min (x2.length : Int) 127).toNat - 0)) (((x2.drop 0).take ((min (x2.length : Int) 127).toNat - 0)).length : Int) 0 0 ([] : Str) 0 0 x1.header x1.vehicle x1.order x1.update ([] : List Stop) ([] : List Yard.Way) (fun y21 y22 y23 y24 y25 y26 y27 y28 y29 y30 => order_Right (⟨y25, y26, y27, y28, y29, y30⟩ : Order) (fun y31 => bif (!y31) then (k0 (⟨0, ([] : Str), 0, 0, ([] : List Stop), ([] : List Yard.Way)⟩ : Order) false) else (k0 (⟨y25, y26, y27, y28, y29, y30⟩ : Order) true)))))))
theorem walk_Order_ok : Tied (R := R) tt (walk_Order_E order_Right walk_isPath) (walk_Order_T walk_Order_6_0_L) false Tryd.f62 walk_Order_p walk_Order_q (walk_Order_rr (walk_Order_X order_Right walk_isPath walk_Order_6_0_L)) := fun x y k => by kernel_rfl
end
theorem walk_Order_EOk : EntOk (R := R) Tryd.prog (walk_Order_E (R := R) order_Right walk_isPath) := .c (order_Right_S_ok R) <| .c (walk_isPath_S_ok R) <| .n
noncomputable def walk_Order_6_0_L : walk_Order_6_0_ty R
  | 0, _, _, _, _, _, _, _, _, _, _, _, _, _, _, _, _ => none
  | n + 1, x0', x1', x2', x3', x4', x5', x6', x7', x8', x9', x10', x11', x12', x13', x14', e0 => walk_Order_6_0_B (fun x0' x1' x2' x3' x4' x5' x6' x7' x8' x9' x10' x11' x12' x13' x14' => walk_Order_6_0_L n x0' x1' x2' x3' x4' x5' x6' x7' x8' x9' x10' x11' x12' x13' x14' e0) x0' x1' x2' x3' x4' x5' x6' x7' x8' x9' x10' x11' x12' x13' x14' e0
noncomputable def walk_Order_6_0_A (K : Ex → St → Option R) (n : Nat) (d : walk_Order_6_0_D) : Option R := walk_Order_6_0_L n d.1 d.2.1 d.2.2.1 d.2.2.2.1 d.2.2.2.2.1 d.2.2.2.2.2.1 d.2.2.2.2.2.2.1 d.2.2.2.2.2.2.2.1 d.2.2.2.2.2.2.2.2.1 d.2.2.2.2.2.2.2.2.2.1 d.2.2.2.2.2.2.2.2.2.2.1 d.2.2.2.2.2.2.2.2.2.2.2.1 d.2.2.2.2.2.2.2.2.2.2.2.2.1 d.2.2.2.2.2.2.2.2.2.2.2.2.2.1 d.2.2.2.2.2.2.2.2.2.2.2.2.2.2 (walk_Order_6_0_x0 K)
theorem walk_Order_6_0_ok (other : LSpec R) (ho : LsOk tt (envL (walk_Order_E (R := R) order_Right walk_isPath)) (walk_Order_T (R := R) walk_Order_6_0_L) 0 ((loopsOf (codeOf Tryd.f62)).getD 0 .skip) walk_Order_6_0_h other) : LsOk tt (envL (walk_Order_E (R := R) order_Right walk_isPath)) (walk_Order_T (R := R) walk_Order_6_0_L) 0 ((loopsOf (codeOf Tryd.f62)).getD 0 .skip) walk_Order_6_0_h (loopBy walk_Order_6_0_p walk_Order_6_0_q (walk_Order_6_0_rr (walk_Order_6_0_L)) other) :=
  loopBy_tie (A := walk_Order_6_0_A) ho (loop_tie walk_Order_6_0_enc (walk_Order_6_0_s) (walk_Order_6_0_A) (fun _ _ => by kernel_rfl) (walk_Order_6_0_B_ok order_Right walk_isPath walk_Order_6_0_L) (fun _ _ _ => by kernel_rfl)) walk_Order_6_0_f walk_Order_6_0_d (fun _ _ => by kernel_rfl) (fun _ _ _ => by kernel_rfl)
noncomputable def walk_Order : walk_Order_ty R := fun x1 x2 x3 x4 k0 => walk_Order_X order_Right walk_isPath walk_Order_6_0_L x1 x2 x3 x4 k0
theorem walk_Order_loops (R : Type) : ∀ a ∈ loopsOf (codeOf Tryd.f62), LoopOk tt (envL (walk_Order_E (R := R) order_Right walk_isPath)) (walk_Order_T (R := R) walk_Order_6_0_L) 0 a := by
  refine loops_ok 1 (by kernel_rfl) fun i hi => ?_
  match i, hi with
  | 0, _ => exact loopOk_some (by kernel_rfl) (walk_Order_6_0_ok _ loopNo_ok)
  | n + 1, hi => omega
theorem walk_Order_S_ok (R : Type) : OkS Tryd.prog 62 (walk_Order_s (walk_Order (R := R))) := tie_ok TT mixed (walk_Order_EOk (R := R)) rfl rfl rfl rfl (walk_Order_loops R) (walk_Order_ok order_Right walk_isPath walk_Order_6_0_L)

/-! ### (*humpyard/fleet.ctl).over -/
abbrev fleet_ctl_over_4fb2_ty (R : Type) : Type := Int → Int → Yard.Ctl → (Order → Bool → Yard.Ctl → Option R) → Option R
abbrev fleet_ctl_over_4fb2_p : List Pat := [.leaf (.ptr 0 0), .leaf (.int .i64), .leaf (.int .i64)]
abbrev fleet_ctl_over_4fb2_q : List HPat := [.cells [.str, .int .i64, .int .i64, .int .i64, .int .i64, .int .i64, .sl (.int .i64), .int .i64, .bool, .int .i64, .bool, .int .i64, .str, .int .i64, .int .i64, .sl .stop, .sl .way]]
noncomputable def fleet_ctl_over_4fb2_rr (fn : fleet_ctl_over_4fb2_ty R) : Run R fleet_ctl_over_4fb2_p fleet_ctl_over_4fb2_q := fun x y k => fn x.2.1 x.2.2.1 (⟨y.1.1, y.1.2.1, y.1.2.2.1, y.1.2.2.2.1, y.1.2.2.2.2.1, y.1.2.2.2.2.2.1, y.1.2.2.2.2.2.2.1, y.1.2.2.2.2.2.2.2.1, (t8 y.1).1, (t8 y.1).2.1, (t8 y.1).2.2.1, ⟨(t8 y.1).2.2.2.1, (t8 y.1).2.2.2.2.1, (t8 y.1).2.2.2.2.2.1, (t8 y.1).2.2.2.2.2.2.1, (t8 y.1).2.2.2.2.2.2.2.1, (t8 (t8 y.1)).1⟩⟩ : Yard.Ctl) (fun q0 q1 q2 => k (.tuple [.agg [.int .i64 q0.header, .str q0.vehicle, .int .i64 q0.order, .int .i64 q0.update, .sl .stop q0.nodes .no, .sl .way q0.edges .no], .bool q1]) [.cells [.str q2.vehicle, .int .i64 q2.header, .int .i64 q2.order, .int .i64 q2.update, .int .i64 q2.boot, .int .i64 q2.seen, .sl (.int .i64) q2.path .no, .int .i64 q2.seq, .bool q2.open_, .int .i64 q2.rel, .bool q2.wait, .int .i64 q2.pending.header, .str q2.pending.vehicle, .int .i64 q2.pending.order, .int .i64 q2.pending.update, .sl .stop q2.pending.nodes .no, .sl .way q2.pending.edges .no]])
noncomputable def fleet_ctl_over_4fb2_s (fn : fleet_ctl_over_4fb2_ty R) := specBy fleet_ctl_over_4fb2_p fleet_ctl_over_4fb2_q (fleet_ctl_over_4fb2_rr fn)
section
variable (walk_Order : walk_Order_ty R)
noncomputable def fleet_ctl_over_4fb2_E : List (Ent R) := [(62, true, (walk_Order_s walk_Order specNo))]
noncomputable def fleet_ctl_over_4fb2_X (x1 : Int) (x2 : Int) (x3 : Yard.Ctl) (k0 : Order → Bool → Yard.Ctl → Option R) : Option R :=
  chk (decide ((0 : Int) ≤ (IntKind.i64.wrap (2 * x1))) && decide ((IntKind.i64.wrap (2 * x1)) ≤ x3.path.length)) (walk_Order (⟨(IntKind.i64.wrap (x3.header + 1)), x3.vehicle, x3.order, x3.update, ([] : List Stop), ([] : List Yard.Way)⟩ : Order) (x3.path.drop (IntKind.i64.wrap (2 * x1)).toNat) (IntKind.i64.wrap (x3.seq + (IntKind.i64.wrap (2 * x1)))) (IntKind.i64.wrap (x2 + 1)) (fun y4 y5 => k0 y4 y5 (⟨x3.vehicle, (IntKind.i64.wrap (x3.header + 1)), x3.order, x3.update, x3.boot, x3.seen, x3.path, x3.seq, x3.open_, x3.rel, x3.wait, ⟨x3.pending.header, x3.pending.vehicle, x3.pending.order, x3.pending.update, x3.pending.nodes, x3.pending.edges⟩⟩ : Yard.Ctl)))
theorem fleet_ctl_over_4fb2_ok : Tied (R := R) tt (fleet_ctl_over_4fb2_E walk_Order) noT false Tryd.f52 fleet_ctl_over_4fb2_p fleet_ctl_over_4fb2_q (fleet_ctl_over_4fb2_rr (fleet_ctl_over_4fb2_X walk_Order)) := fun x y k => by kernel_rfl
end
theorem fleet_ctl_over_4fb2_EOk : EntOk (R := R) Tryd.prog (fleet_ctl_over_4fb2_E (R := R) walk_Order) := .c (walk_Order_S_ok R) <| .n
noncomputable def fleet_ctl_over_4fb2 : fleet_ctl_over_4fb2_ty R := fun x1 x2 x3 k0 => fleet_ctl_over_4fb2_X walk_Order x1 x2 x3 k0
theorem fleet_ctl_over_4fb2_S_ok (R : Type) : OkS Tryd.prog 52 (fleet_ctl_over_4fb2_s (fleet_ctl_over_4fb2 (R := R))) := tie_ok TT mixed (fleet_ctl_over_4fb2_EOk (R := R)) rfl rfl rfl rfl noT_ok (fleet_ctl_over_4fb2_ok walk_Order)

/-! ### (*humpyard/fleet.ctl).first -/
abbrev fleet_ctl_first_4f52_ty (R : Type) : Type := Int → Yard.Ctl → (Order → Bool → Yard.Ctl → Option R) → Option R
abbrev fleet_ctl_first_4f52_p : List Pat := [.leaf (.ptr 0 0), .leaf (.int .i64)]
abbrev fleet_ctl_first_4f52_q : List HPat := [.cells [.str, .int .i64, .int .i64, .int .i64, .int .i64, .int .i64, .sl (.int .i64), .int .i64, .bool, .int .i64, .bool, .int .i64, .str, .int .i64, .int .i64, .sl .stop, .sl .way]]
noncomputable def fleet_ctl_first_4f52_rr (fn : fleet_ctl_first_4f52_ty R) : Run R fleet_ctl_first_4f52_p fleet_ctl_first_4f52_q := fun x y k => fn x.2.1 (⟨y.1.1, y.1.2.1, y.1.2.2.1, y.1.2.2.2.1, y.1.2.2.2.2.1, y.1.2.2.2.2.2.1, y.1.2.2.2.2.2.2.1, y.1.2.2.2.2.2.2.2.1, (t8 y.1).1, (t8 y.1).2.1, (t8 y.1).2.2.1, ⟨(t8 y.1).2.2.2.1, (t8 y.1).2.2.2.2.1, (t8 y.1).2.2.2.2.2.1, (t8 y.1).2.2.2.2.2.2.1, (t8 y.1).2.2.2.2.2.2.2.1, (t8 (t8 y.1)).1⟩⟩ : Yard.Ctl) (fun q0 q1 q2 => k (.tuple [.agg [.int .i64 q0.header, .str q0.vehicle, .int .i64 q0.order, .int .i64 q0.update, .sl .stop q0.nodes .no, .sl .way q0.edges .no], .bool q1]) [.cells [.str q2.vehicle, .int .i64 q2.header, .int .i64 q2.order, .int .i64 q2.update, .int .i64 q2.boot, .int .i64 q2.seen, .sl (.int .i64) q2.path .no, .int .i64 q2.seq, .bool q2.open_, .int .i64 q2.rel, .bool q2.wait, .int .i64 q2.pending.header, .str q2.pending.vehicle, .int .i64 q2.pending.order, .int .i64 q2.pending.update, .sl .stop q2.pending.nodes .no, .sl .way q2.pending.edges .no]])
noncomputable def fleet_ctl_first_4f52_s (fn : fleet_ctl_first_4f52_ty R) := specBy fleet_ctl_first_4f52_p fleet_ctl_first_4f52_q (fleet_ctl_first_4f52_rr fn)
section
variable (fleet_ctl_over_4fb2 : fleet_ctl_over_4fb2_ty R)
noncomputable def fleet_ctl_first_4f52_E : List (Ent R) := [(52, false, (fleet_ctl_over_4fb2_s fleet_ctl_over_4fb2 specNo))]
noncomputable def fleet_ctl_first_4f52_X (x1 : Int) (x2 : Yard.Ctl) (k0 : Order → Bool → Yard.Ctl → Option R) : Option R :=
  fleet_ctl_over_4fb2 0 (min x1 63) (⟨x2.vehicle, x2.header, (IntKind.i64.wrap (x2.order + 1)), 0, x2.boot, x2.seen, x2.path, 0, x2.open_, (min x1 63), x2.wait, ⟨x2.pending.header, x2.pending.vehicle, x2.pending.order, x2.pending.update, x2.pending.nodes, x2.pending.edges⟩⟩ : Yard.Ctl) (fun y3 y4 y5 => k0 y3 y4 y5)
theorem fleet_ctl_first_4f52_ok : Tied (R := R) tt (fleet_ctl_first_4f52_E fleet_ctl_over_4fb2) noT false Tryd.f36 fleet_ctl_first_4f52_p fleet_ctl_first_4f52_q (fleet_ctl_first_4f52_rr (fleet_ctl_first_4f52_X fleet_ctl_over_4fb2)) := fun x y k => by kernel_rfl
end
theorem fleet_ctl_first_4f52_EOk : EntOk (R := R) Tryd.prog (fleet_ctl_first_4f52_E (R := R) fleet_ctl_over_4fb2) := .d (fleet_ctl_over_4fb2_S_ok R) rfl <| .n
noncomputable def fleet_ctl_first_4f52 : fleet_ctl_first_4f52_ty R := fun x1 x2 k0 => fleet_ctl_first_4f52_X fleet_ctl_over_4fb2 x1 x2 k0
theorem fleet_ctl_first_4f52_S_ok (R : Type) : OkS Tryd.prog 36 (fleet_ctl_first_4f52_s (fleet_ctl_first_4f52 (R := R))) := tie_ok TT mixed (fleet_ctl_first_4f52_EOk (R := R)) rfl rfl rfl rfl noT_ok (fleet_ctl_first_4f52_ok fleet_ctl_over_4fb2)

end Go.Proofs.YtolnaonmpohciaaDoor

/-
  Functions of the program as pure Lean functions, and the ties; printed by wip/tools/emit.py.
-/
set_option maxRecDepth 100000
namespace Go.Proofs.YtolnaonmpohciaaDoor
open Go Go.Yard
variable {R : Type}

/-! ### (*humpyard/fleet.ctl).more -/
abbrev fleet_ctl_more_4f52_ty (R : Type) : Type := Int → Yard.Ctl → (Order → Bool → Yard.Ctl → Option R) → Option R
abbrev fleet_ctl_more_4f52_p : List Pat := [.leaf (.ptr 0 0), .leaf (.int .i64)]
abbrev fleet_ctl_more_4f52_q : List HPat := [.cells [.str, .int .i64, .int .i64, .int .i64, .int .i64, .int .i64, .sl (.int .i64), .int .i64, .bool, .int .i64, .bool, .int .i64, .str, .int .i64, .int .i64, .sl .stop, .sl .way]]
noncomputable def fleet_ctl_more_4f52_rr (fn : fleet_ctl_more_4f52_ty R) : Run R fleet_ctl_more_4f52_p fleet_ctl_more_4f52_q := fun x y k => fn x.2.1 (⟨y.1.1, y.1.2.1, y.1.2.2.1, y.1.2.2.2.1, y.1.2.2.2.2.1, y.1.2.2.2.2.2.1, y.1.2.2.2.2.2.2.1, y.1.2.2.2.2.2.2.2.1, (t8 y.1).1, (t8 y.1).2.1, (t8 y.1).2.2.1, ⟨(t8 y.1).2.2.2.1, (t8 y.1).2.2.2.2.1, (t8 y.1).2.2.2.2.2.1, (t8 y.1).2.2.2.2.2.2.1, (t8 y.1).2.2.2.2.2.2.2.1, (t8 (t8 y.1)).1⟩⟩ : Yard.Ctl) (fun q0 q1 q2 => k (.tuple [.agg [.int .i64 q0.header, .str q0.vehicle, .int .i64 q0.order, .int .i64 q0.update, .sl .stop q0.nodes .no, .sl .way q0.edges .no], .bool q1]) [.cells [.str q2.vehicle, .int .i64 q2.header, .int .i64 q2.order, .int .i64 q2.update, .int .i64 q2.boot, .int .i64 q2.seen, .sl (.int .i64) q2.path .no, .int .i64 q2.seq, .bool q2.open_, .int .i64 q2.rel, .bool q2.wait, .int .i64 q2.pending.header, .str q2.pending.vehicle, .int .i64 q2.pending.order, .int .i64 q2.pending.update, .sl .stop q2.pending.nodes .no, .sl .way q2.pending.edges .no]])
noncomputable def fleet_ctl_more_4f52_s (fn : fleet_ctl_more_4f52_ty R) := specBy fleet_ctl_more_4f52_p fleet_ctl_more_4f52_q (fleet_ctl_more_4f52_rr fn)
section
variable (fleet_ctl_over_4fb2 : fleet_ctl_over_4fb2_ty R)
noncomputable def fleet_ctl_more_4f52_E : List (Ent R) := [(52, false, (fleet_ctl_over_4fb2_s fleet_ctl_over_4fb2 specNo))]
noncomputable def fleet_ctl_more_4f52_X (x1 : Int) (x2 : Yard.Ctl) (k0 : Order → Bool → Yard.Ctl → Option R) : Option R :=
  fleet_ctl_over_4fb2 x2.rel (IntKind.i64.wrap ((min x1 (IntKind.i64.wrap (x2.rel + 63))) - x2.rel)) (⟨x2.vehicle, x2.header, x2.order, (IntKind.i64.wrap (x2.update + 1)), x2.boot, x2.seen, x2.path, x2.seq, x2.open_, (min x1 (IntKind.i64.wrap (x2.rel + 63))), x2.wait, ⟨x2.pending.header, x2.pending.vehicle, x2.pending.order, x2.pending.update, x2.pending.nodes, x2.pending.edges⟩⟩ : Yard.Ctl) (fun y3 y4 y5 => k0 y3 y4 y5)
theorem fleet_ctl_more_4f52_ok : Tied (R := R) tt (fleet_ctl_more_4f52_E fleet_ctl_over_4fb2) noT false Tryd.f37 fleet_ctl_more_4f52_p fleet_ctl_more_4f52_q (fleet_ctl_more_4f52_rr (fleet_ctl_more_4f52_X fleet_ctl_over_4fb2)) := fun x y k => by kernel_rfl
end
theorem fleet_ctl_more_4f52_EOk : EntOk (R := R) Tryd.prog (fleet_ctl_more_4f52_E (R := R) fleet_ctl_over_4fb2) := .d (fleet_ctl_over_4fb2_S_ok R) rfl <| .n
noncomputable def fleet_ctl_more_4f52 : fleet_ctl_more_4f52_ty R := fun x1 x2 k0 => fleet_ctl_more_4f52_X fleet_ctl_over_4fb2 x1 x2 k0
theorem fleet_ctl_more_4f52_S_ok (R : Type) : OkS Tryd.prog 37 (fleet_ctl_more_4f52_s (fleet_ctl_more_4f52 (R := R))) := tie_ok TT mixed (fleet_ctl_more_4f52_EOk (R := R)) rfl rfl rfl rfl noT_ok (fleet_ctl_more_4f52_ok fleet_ctl_over_4fb2)

/-! ### humpyard/fleet.Next -/
abbrev fleet_Next_ty (R : Type) : Type := Yard.Ctl → Int → (Yard.Ctl → Order → Bool → Option R) → Option R
abbrev fleet_Next_p : List Pat := [.agg [.str, .int .i64, .int .i64, .int .i64, .int .i64, .int .i64, .sl (.int .i64), .int .i64, .bool, .int .i64, .bool, .int .i64, .str, .int .i64, .int .i64, .sl .stop, .sl .way], .leaf (.int .i64)]
abbrev fleet_Next_q : List HPat := []
noncomputable def fleet_Next_rr (fn : fleet_Next_ty R) : Run R fleet_Next_p fleet_Next_q := fun x y k => fn (⟨x.1.1, x.1.2.1, x.1.2.2.1, x.1.2.2.2.1, x.1.2.2.2.2.1, x.1.2.2.2.2.2.1, x.1.2.2.2.2.2.2.1, x.1.2.2.2.2.2.2.2.1, (t8 x.1).1, (t8 x.1).2.1, (t8 x.1).2.2.1, ⟨(t8 x.1).2.2.2.1, (t8 x.1).2.2.2.2.1, (t8 x.1).2.2.2.2.2.1, (t8 x.1).2.2.2.2.2.2.1, (t8 x.1).2.2.2.2.2.2.2.1, (t8 (t8 x.1)).1⟩⟩ : Yard.Ctl) x.2.1 (fun q0 q1 q2 => k (.tuple [.agg [.str q0.vehicle, .int .i64 q0.header, .int .i64 q0.order, .int .i64 q0.update, .int .i64 q0.boot, .int .i64 q0.seen, .sl (.int .i64) q0.path .no, .int .i64 q0.seq, .bool q0.open_, .int .i64 q0.rel, .bool q0.wait, .int .i64 q0.pending.header, .str q0.pending.vehicle, .int .i64 q0.pending.order, .int .i64 q0.pending.update, .sl .stop q0.pending.nodes .no, .sl .way q0.pending.edges .no], .agg [.int .i64 q1.header, .str q1.vehicle, .int .i64 q1.order, .int .i64 q1.update, .sl .stop q1.nodes .no, .sl .way q1.edges .no], .bool q2]) [])
noncomputable def fleet_Next_s (fn : fleet_Next_ty R) := specBy fleet_Next_p fleet_Next_q (fleet_Next_rr fn)
section
variable (fleet_ctl_first_4f52 : fleet_ctl_first_4f52_ty R) (fleet_ctl_more_4f52 : fleet_ctl_more_4f52_ty R) (fleet_fresh : fleet_fresh_ty R) (fleet_own : fleet_own_ty R) (fleet_right : fleet_right_ty R)
noncomputable def fleet_Next_E : List (Ent R) := [(36, false, (fleet_ctl_first_4f52_s fleet_ctl_first_4f52 specNo)), (37, false, (fleet_ctl_more_4f52_s fleet_ctl_more_4f52 specNo)), (35, true, (fleet_fresh_s fleet_fresh specNo)), (25, false, (fleet_own_s fleet_own specNo)), (34, true, (fleet_right_s fleet_right specNo))]
noncomputable def fleet_Next_X (x1 : Yard.Ctl) (x2 : Int) (k0 : Yard.Ctl → Order → Bool → Option R) : Option R :=
  fleet_own x1 (fun y3 => fleet_right x1 (fun y4 => bif (!y4) then (k0 y3 (⟨0, ([] : Str), 0, 0, ([] : List Stop), ([] : List Yard.Way)⟩ : Order) false) else (bif x1.wait then (fleet_fresh x1.pending (fun y5 => k0 y3 y5 true)) else (let j30 := fun (z6 : Int) => let j29 := fun (z24 : Bool) (z25 : Yard.Ctl) (z26 : Order) => bif (!z24) then (fleet_own x1 (fun y27 => k0 y27 (⟨0, ([] : Str), 0, 0, ([] : List Stop), ([] : List Yard.Way)⟩ : Order) false)) else (fleet_fresh z26 (fun y28 => k0 (⟨z25.vehicle, z25.header, z25.order, z25.update, z25.boot, z25.seen, z25.path, z25.seq, true, z25.rel, true, ⟨z26.header, z26.vehicle, z26.order, z26.update, z26.nodes, z26.edges⟩⟩ : Yard.Ctl) y28 true)); bif (decide (x1.header ≥ (1000000000 : Int))) then (fleet_own x1 (fun y20 => k0 y20 (⟨0, ([] : Str), 0, 0, ([] : List Stop), ([] : List Yard.Way)⟩ : Order) false)) else (let j18 := fun (z7 : Bool) => bif z7 then (fleet_ctl_first_4f52 z6 y3 (fun y8 y9 y10 => j29 y9 y10 y8)) else (bif x1.open_ then (bif (decide (x1.rel < z6)) then (bif (decide (x1.update < (1000000000 : Int))) then (fleet_ctl_more_4f52 z6 y3 (fun y15 y16 y17 => j29 y16 y17 y15)) else (fleet_own x1 (fun y21 => k0 y21 (⟨0, ([] : Str), 0, 0, ([] : List Stop), ([] : List Yard.Way)⟩ : Order) false))) else (fleet_own x1 (fun y22 => k0 y22 (⟨0, ([] : Str), 0, 0, ([] : List Stop), ([] : List Yard.Way)⟩ : Order) false))) else (fleet_own x1 (fun y23 => k0 y23 (⟨0, ([] : Str), 0, 0, ([] : List Stop), ([] : List Yard.Way)⟩ : Order) false))); bif (!x1.open_) then (bif (decide ((IntKind.i64.wrap (Int.tdiv (x1.path.length : Int) 2)) > (0 : Int))) then (j18 (decide (x1.order < (1000000000 : Int)))) else (j18 false)) else (j18 false)); bif (decide (x2 > (0 : Int))) then (j30 (min x2 (IntKind.i64.wrap (Int.tdiv (x1.path.length : Int) 2)))) else (j30 (IntKind.i64.wrap (Int.tdiv (x1.path.length : Int) 2)))))))
theorem fleet_Next_ok : Tied (R := R) tt (fleet_Next_E fleet_ctl_first_4f52 fleet_ctl_more_4f52 fleet_fresh fleet_own fleet_right) noT false Tryd.f15 fleet_Next_p fleet_Next_q (fleet_Next_rr (fleet_Next_X fleet_ctl_first_4f52 fleet_ctl_more_4f52 fleet_fresh fleet_own fleet_right)) := fun x y k => by kernel_rfl
end
theorem fleet_Next_EOk : EntOk (R := R) Tryd.prog (fleet_Next_E (R := R) fleet_ctl_first_4f52 fleet_ctl_more_4f52 fleet_fresh fleet_own fleet_right) := .d (fleet_ctl_first_4f52_S_ok R) rfl <| .d (fleet_ctl_more_4f52_S_ok R) rfl <| .c (fleet_fresh_S_ok R) <| .d (fleet_own_S_ok R) rfl <| .c (fleet_right_S_ok R) <| .n
noncomputable def fleet_Next : fleet_Next_ty R := fun x1 x2 k0 => fleet_Next_X fleet_ctl_first_4f52 fleet_ctl_more_4f52 fleet_fresh fleet_own fleet_right x1 x2 k0
theorem fleet_Next_S_ok (R : Type) : OkS Tryd.prog 15 (fleet_Next_s (fleet_Next (R := R))) := tie_ok TT mixed (fleet_Next_EOk (R := R)) rfl rfl rfl rfl noT_ok (fleet_Next_ok fleet_ctl_first_4f52 fleet_ctl_more_4f52 fleet_fresh fleet_own fleet_right)

/-! ### slices.Min[[]int,int] -/
abbrev slices_Min_intint_ty (R : Type) : Type := (List Int) → (Int → Option R) → Option R
abbrev slices_Min_intint_p : List Pat := [.leaf (.sl (.int .i64))]
abbrev slices_Min_intint_q : List HPat := []
noncomputable def slices_Min_intint_rr (fn : slices_Min_intint_ty R) : Run R slices_Min_intint_p slices_Min_intint_q := fun x y k => fn x.1 (fun q0 => k (.int .i64 q0) [])
noncomputable def slices_Min_intint_s (fn : slices_Min_intint_ty R) := specBy slices_Min_intint_p slices_Min_intint_q (slices_Min_intint_rr fn)
abbrev slices_Min_intint_5_0_ty (R : Type) : Type := Nat → (List Int) → Int → Int → (Int → Option R) → Option R
noncomputable def slices_Min_intint_5_0_h : Hint := { live := [0, 3, 4], own := [], rows := [], cells := [], drop := [], out := [2, 3] }
abbrev slices_Min_intint_5_0_D : Type := (List Int) × Int × Int
noncomputable def slices_Min_intint_5_0_enc : slices_Min_intint_5_0_D → St := fun d => ⟨.sl (.int .i64) d.1 .no :: U 2 (.int .i64 d.2.1 :: .int .i64 d.2.2 :: U 20 ([])), []⟩
noncomputable def slices_Min_intint_5_0_x0 (K : Ex → St → Option R) (q0 : Int) : Option R := K (.exit 0) ⟨U 3 (.int .i64 q0 :: U 21 ([])), []⟩
abbrev slices_Min_intint_5_0_p : List Pat := .leaf (.sl (.int .i64)) :: PU 2 (.leaf (.int .i64) :: .leaf (.int .i64) :: PU 20 ([]))
abbrev slices_Min_intint_5_0_q : List HPat := []
noncomputable def slices_Min_intint_5_0_f (x : Pat.dens slices_Min_intint_5_0_p) (y : HPat.dens slices_Min_intint_5_0_q) : Nat := (List.length x.1 + Int.natAbs x.2.2.2.1 + Int.natAbs x.2.2.2.2.1 + 64)
noncomputable def slices_Min_intint_5_0_d (x : Pat.dens slices_Min_intint_5_0_p) (y : HPat.dens slices_Min_intint_5_0_q) : slices_Min_intint_5_0_D := (x.1, x.2.2.2.1, x.2.2.2.2.1)
noncomputable def slices_Min_intint_5_0_rr (L : slices_Min_intint_5_0_ty R) : LRun R slices_Min_intint_5_0_p slices_Min_intint_5_0_q := fun x y K => L (slices_Min_intint_5_0_f x y) x.1 x.2.2.2.1 x.2.2.2.2.1 (slices_Min_intint_5_0_x0 K)
section
variable (slices_Min_intint_5_0_L : slices_Min_intint_5_0_ty R)
noncomputable def slices_Min_intint_5_0_B (rec' : (List Int) → Int → Int → Option R) (x2 : List Int) (x3 : Int) (x4 : Int) (e0 : Int → Option R) : Option R :=
  bif (decide (x4 < (x2.length : Int))) then (chk (decide ((0 : Int) ≤ x4) && decide (x4 < x2.length)) (rec' x2 (min x3 (x2.getD x4.toNat (Ty.dflt (.int .i64)))) (IntKind.i64.wrap (x4 + 1)))) else (e0 x3)
noncomputable def slices_Min_intint_5_0_s (K : Ex → St → Option R) (rc : slices_Min_intint_5_0_D → Option R) (d : slices_Min_intint_5_0_D) : Option R := slices_Min_intint_5_0_B (fun z0 z1 z2 => rc (z0, z1, z2)) d.1 d.2.1 d.2.2 (slices_Min_intint_5_0_x0 K)
noncomputable def slices_Min_intint_T : Nat → Option (Hint × LSpec R) := fun i => match i with
  | 5 => some (slices_Min_intint_5_0_h, (loopBy slices_Min_intint_5_0_p slices_Min_intint_5_0_q (slices_Min_intint_5_0_rr slices_Min_intint_5_0_L) loopNo))
  | _ => none
theorem slices_Min_intint_5_0_B_ok (K : Ex → St → Option R) (rc : St → Option R) (d : slices_Min_intint_5_0_D) : roundOf tt (envL []) (slices_Min_intint_T slices_Min_intint_5_0_L) 0 ((loopsOf (codeOf Tryd.f55)).getD 0 .skip) slices_Min_intint_5_0_h (slices_Min_intint_5_0_enc d) rc K = slices_Min_intint_5_0_s K (fun d => rc (slices_Min_intint_5_0_enc d)) d := by kernel_rfl
noncomputable def slices_Min_intint_X (x1 : List Int) (k0 : Int → Option R) : Option R :=
  bif (decide ((x1.length : Int) < (1 : Int))) then (none) else (chk (decide ((0 : Int) < x1.length)) (slices_Min_intint_5_0_L (List.length x1 + Int.natAbs (x1.getD 0 (Ty.dflt (.int .i64))) + Int.natAbs 1 + 64) x1 (x1.getD 0 (Ty.dflt (.int .i64))) 1 (fun y5 => k0 y5)))
theorem slices_Min_intint_ok : Tied (R := R) tt [] (slices_Min_intint_T slices_Min_intint_5_0_L) false Tryd.f55 slices_Min_intint_p slices_Min_intint_q (slices_Min_intint_rr (slices_Min_intint_X slices_Min_intint_5_0_L)) := fun x y k => by kernel_rfl
end
noncomputable def slices_Min_intint_5_0_L : slices_Min_intint_5_0_ty R
  | 0, _, _, _, _ => none
  | n + 1, x0', x1', x2', e0 => slices_Min_intint_5_0_B (fun x0' x1' x2' => slices_Min_intint_5_0_L n x0' x1' x2' e0) x0' x1' x2' e0
noncomputable def slices_Min_intint_5_0_A (K : Ex → St → Option R) (n : Nat) (d : slices_Min_intint_5_0_D) : Option R := slices_Min_intint_5_0_L n d.1 d.2.1 d.2.2 (slices_Min_intint_5_0_x0 K)
theorem slices_Min_intint_5_0_ok (other : LSpec R) (ho : LsOk tt (envL []) (slices_Min_intint_T (R := R) slices_Min_intint_5_0_L) 0 ((loopsOf (codeOf Tryd.f55)).getD 0 .skip) slices_Min_intint_5_0_h other) : LsOk tt (envL []) (slices_Min_intint_T (R := R) slices_Min_intint_5_0_L) 0 ((loopsOf (codeOf Tryd.f55)).getD 0 .skip) slices_Min_intint_5_0_h (loopBy slices_Min_intint_5_0_p slices_Min_intint_5_0_q (slices_Min_intint_5_0_rr (slices_Min_intint_5_0_L)) other) :=
  loopBy_tie (A := slices_Min_intint_5_0_A) ho (loop_tie slices_Min_intint_5_0_enc (slices_Min_intint_5_0_s) (slices_Min_intint_5_0_A) (fun _ _ => by kernel_rfl) (slices_Min_intint_5_0_B_ok slices_Min_intint_5_0_L) (fun _ _ _ => by kernel_rfl)) slices_Min_intint_5_0_f slices_Min_intint_5_0_d (fun _ _ => by kernel_rfl) (fun _ _ _ => by kernel_rfl)
noncomputable def slices_Min_intint : slices_Min_intint_ty R := fun x1 k0 => slices_Min_intint_X slices_Min_intint_5_0_L x1 k0
theorem slices_Min_intint_loops (R : Type) : ∀ a ∈ loopsOf (codeOf Tryd.f55), LoopOk tt (envL []) (slices_Min_intint_T (R := R) slices_Min_intint_5_0_L) 0 a := by
  refine loops_ok 1 (by kernel_rfl) fun i hi => ?_
  match i, hi with
  | 0, _ => exact loopOk_some (by kernel_rfl) (slices_Min_intint_5_0_ok _ loopNo_ok)
  | n + 1, hi => omega
theorem slices_Min_intint_S_ok (R : Type) : OkS Tryd.prog 55 (slices_Min_intint_s (slices_Min_intint (R := R))) := tie_ok TT mixed .n rfl rfl rfl rfl (slices_Min_intint_loops R) (slices_Min_intint_ok slices_Min_intint_5_0_L)

/-! ### slices.Max[[]int,int] -/
abbrev slices_Max_intint_ty (R : Type) : Type := (List Int) → (Int → Option R) → Option R
abbrev slices_Max_intint_p : List Pat := [.leaf (.sl (.int .i64))]
abbrev slices_Max_intint_q : List HPat := []
noncomputable def slices_Max_intint_rr (fn : slices_Max_intint_ty R) : Run R slices_Max_intint_p slices_Max_intint_q := fun x y k => fn x.1 (fun q0 => k (.int .i64 q0) [])
noncomputable def slices_Max_intint_s (fn : slices_Max_intint_ty R) := specBy slices_Max_intint_p slices_Max_intint_q (slices_Max_intint_rr fn)
abbrev slices_Max_intint_5_0_ty (R : Type) : Type := Nat → (List Int) → Int → Int → (Int → Option R) → Option R
noncomputable def slices_Max_intint_5_0_h : Hint := { live := [0, 3, 4], own := [], rows := [], cells := [], drop := [], out := [2, 3] }
abbrev slices_Max_intint_5_0_D : Type := (List Int) × Int × Int
noncomputable def slices_Max_intint_5_0_enc : slices_Max_intint_5_0_D → St := fun d => ⟨.sl (.int .i64) d.1 .no :: U 2 (.int .i64 d.2.1 :: .int .i64 d.2.2 :: U 20 ([])), []⟩
noncomputable def slices_Max_intint_5_0_x0 (K : Ex → St → Option R) (q0 : Int) : Option R := K (.exit 0) ⟨U 3 (.int .i64 q0 :: U 21 ([])), []⟩
abbrev slices_Max_intint_5_0_p : List Pat := .leaf (.sl (.int .i64)) :: PU 2 (.leaf (.int .i64) :: .leaf (.int .i64) :: PU 20 ([]))
abbrev slices_Max_intint_5_0_q : List HPat := []
noncomputable def slices_Max_intint_5_0_f (x : Pat.dens slices_Max_intint_5_0_p) (y : HPat.dens slices_Max_intint_5_0_q) : Nat := (List.length x.1 + Int.natAbs x.2.2.2.1 + Int.natAbs x.2.2.2.2.1 + 64)
noncomputable def slices_Max_intint_5_0_d (x : Pat.dens slices_Max_intint_5_0_p) (y : HPat.dens slices_Max_intint_5_0_q) : slices_Max_intint_5_0_D := (x.1, x.2.2.2.1, x.2.2.2.2.1)
noncomputable def slices_Max_intint_5_0_rr (L : slices_Max_intint_5_0_ty R) : LRun R slices_Max_intint_5_0_p slices_Max_intint_5_0_q := fun x y K => L (slices_Max_intint_5_0_f x y) x.1 x.2.2.2.1 x.2.2.2.2.1 (slices_Max_intint_5_0_x0 K)
section
variable (slices_Max_intint_5_0_L : slices_Max_intint_5_0_ty R)
noncomputable def slices_Max_intint_5_0_B (rec' : (List Int) → Int → Int → Option R) (x2 : List Int) (x3 : Int) (x4 : Int) (e0 : Int → Option R) : Option R :=
  bif (decide (x4 < (x2.length : Int))) then (chk (decide ((0 : Int) ≤ x4) && decide (x4 < x2.length)) (rec' x2 (max x3 (x2.getD x4.toNat (Ty.dflt (.int .i64)))) (IntKind.i64.wrap (x4 + 1)))) else (e0 x3)
noncomputable def slices_Max_intint_5_0_s (K : Ex → St → Option R) (rc : slices_Max_intint_5_0_D → Option R) (d : slices_Max_intint_5_0_D) : Option R := slices_Max_intint_5_0_B (fun z0 z1 z2 => rc (z0, z1, z2)) d.1 d.2.1 d.2.2 (slices_Max_intint_5_0_x0 K)
noncomputable def slices_Max_intint_T : Nat → Option (Hint × LSpec R) := fun i => match i with
  | 5 => some (slices_Max_intint_5_0_h, (loopBy slices_Max_intint_5_0_p slices_Max_intint_5_0_q (slices_Max_intint_5_0_rr slices_Max_intint_5_0_L) loopNo))
  | _ => none
theorem slices_Max_intint_5_0_B_ok (K : Ex → St → Option R) (rc : St → Option R) (d : slices_Max_intint_5_0_D) : roundOf tt (envL []) (slices_Max_intint_T slices_Max_intint_5_0_L) 0 ((loopsOf (codeOf Tryd.f56)).getD 0 .skip) slices_Max_intint_5_0_h (slices_Max_intint_5_0_enc d) rc K = slices_Max_intint_5_0_s K (fun d => rc (slices_Max_intint_5_0_enc d)) d := by kernel_rfl
noncomputable def slices_Max_intint_X (x1 : List Int) (k0 : Int → Option R) : Option R :=
  bif (decide ((x1.length : Int) < (1 : Int))) then (none) else (chk (decide ((0 : Int) < x1.length)) (slices_Max_intint_5_0_L (List.length x1 + Int.natAbs (x1.getD 0 (Ty.dflt (.int .i64))) + Int.natAbs 1 + 64) x1 (x1.getD 0 (Ty.dflt (.int .i64))) 1 (fun y5 => k0 y5)))
theorem slices_Max_intint_ok : Tied (R := R) tt [] (slices_Max_intint_T slices_Max_intint_5_0_L) false Tryd.f56 slices_Max_intint_p slices_Max_intint_q (slices_Max_intint_rr (slices_Max_intint_X slices_Max_intint_5_0_L)) := fun x y k => by kernel_rfl
end
noncomputable def slices_Max_intint_5_0_L : slices_Max_intint_5_0_ty R
  | 0, _, _, _, _ => none
  | n + 1, x0', x1', x2', e0 => slices_Max_intint_5_0_B (fun x0' x1' x2' => slices_Max_intint_5_0_L n x0' x1' x2' e0) x0' x1' x2' e0
noncomputable def slices_Max_intint_5_0_A (K : Ex → St → Option R) (n : Nat) (d : slices_Max_intint_5_0_D) : Option R := slices_Max_intint_5_0_L n d.1 d.2.1 d.2.2 (slices_Max_intint_5_0_x0 K)
theorem slices_Max_intint_5_0_ok (other : LSpec R) (ho : LsOk tt (envL []) (slices_Max_intint_T (R := R) slices_Max_intint_5_0_L) 0 ((loopsOf (codeOf Tryd.f56)).getD 0 .skip) slices_Max_intint_5_0_h other) : LsOk tt (envL []) (slices_Max_intint_T (R := R) slices_Max_intint_5_0_L) 0 ((loopsOf (codeOf Tryd.f56)).getD 0 .skip) slices_Max_intint_5_0_h (loopBy slices_Max_intint_5_0_p slices_Max_intint_5_0_q (slices_Max_intint_5_0_rr (slices_Max_intint_5_0_L)) other) :=
  loopBy_tie (A := slices_Max_intint_5_0_A) ho (loop_tie slices_Max_intint_5_0_enc (slices_Max_intint_5_0_s) (slices_Max_intint_5_0_A) (fun _ _ => by kernel_rfl) (slices_Max_intint_5_0_B_ok slices_Max_intint_5_0_L) (fun _ _ _ => by kernel_rfl)) slices_Max_intint_5_0_f slices_Max_intint_5_0_d (fun _ _ => by kernel_rfl) (fun _ _ _ => by kernel_rfl)
noncomputable def slices_Max_intint : slices_Max_intint_ty R := fun x1 k0 => slices_Max_intint_X slices_Max_intint_5_0_L x1 k0
theorem slices_Max_intint_loops (R : Type) : ∀ a ∈ loopsOf (codeOf Tryd.f56), LoopOk tt (envL []) (slices_Max_intint_T (R := R) slices_Max_intint_5_0_L) 0 a := by
  refine loops_ok 1 (by kernel_rfl) fun i hi => ?_
  match i, hi with
  | 0, _ => exact loopOk_some (by kernel_rfl) (slices_Max_intint_5_0_ok _ loopNo_ok)
  | n + 1, hi => omega
theorem slices_Max_intint_S_ok (R : Type) : OkS Tryd.prog 56 (slices_Max_intint_s (slices_Max_intint (R := R))) := tie_ok TT mixed .n rfl rfl rfl rfl (slices_Max_intint_loops R) (slices_Max_intint_ok slices_Max_intint_5_0_L)

/-! ### humpyard/state.Right -/
abbrev state_Right_ty (R : Type) : Type := Yard.State → (Bool → Option R) → Option R
abbrev state_Right_p : List Pat := [.agg [.int .i64, .int .i64, .str, .int .i64, .int .i64, .bool, .int .i64, .int .i64, .bool, .int .i64]]
abbrev state_Right_q : List HPat := []
noncomputable def state_Right_rr (fn : state_Right_ty R) : Run R state_Right_p state_Right_q := fun x y k => fn (⟨x.1.1, x.1.2.1, x.1.2.2.1, x.1.2.2.2.1, x.1.2.2.2.2.1, x.1.2.2.2.2.2.1, x.1.2.2.2.2.2.2.1, x.1.2.2.2.2.2.2.2.1, (t8 x.1).1, (t8 x.1).2.1⟩ : Yard.State) (fun q0 => k (.bool q0) [])
noncomputable def state_Right_s (fn : state_Right_ty R) := specBy state_Right_p state_Right_q (state_Right_rr fn)
section
variable (topic_Name : topic_Name_ty R) (slices_Max_intint : slices_Max_intint_ty R) (slices_Min_intint : slices_Min_intint_ty R)
noncomputable def state_Right_E : List (Ent R) := [(54, true, (topic_Name_s topic_Name specNo)), (56, true, (slices_Max_intint_s slices_Max_intint specNo)), (55, true, (slices_Min_intint_s slices_Min_intint specNo))]
noncomputable def state_Right_X (x1 : Yard.State) (k0 : Bool → Option R) : Option R :=
  topic_Name x1.vehicle (fun y2 => bif y2 then (slices_Min_intint ([x1.header, x1.boot, x1.order, x1.update, x1.node, x1.seq, x1.accepted] : List Int) (fun y3 => bif (decide (y3 ≥ (0 : Int))) then (slices_Max_intint ([x1.header, x1.boot, x1.order, x1.update, x1.node, x1.seq, x1.accepted] : List Int) (fun y4 => bif (decide (y4 ≤ (1000000000 : Int))) then (bif ((Int.tmod x1.seq 2) == 0) then (bif x1.live then (k0 true) else (k0 (!x1.driving))) else (k0 false)) else (k0 false))) else (k0 false))) else (k0 false))
theorem state_Right_ok : Tied (R := R) tt (state_Right_E topic_Name slices_Max_intint slices_Min_intint) noT false Tryd.f39 state_Right_p state_Right_q (state_Right_rr (state_Right_X topic_Name slices_Max_intint slices_Min_intint)) := fun x y k => by kernel_rfl
end
theorem state_Right_EOk : EntOk (R := R) Tryd.prog (state_Right_E (R := R) topic_Name slices_Max_intint slices_Min_intint) := .c (topic_Name_S_ok R) <| .c (slices_Max_intint_S_ok R) <| .c (slices_Min_intint_S_ok R) <| .n
noncomputable def state_Right : state_Right_ty R := fun x1 k0 => state_Right_X topic_Name slices_Max_intint slices_Min_intint x1 k0
theorem state_Right_S_ok (R : Type) : OkS Tryd.prog 39 (state_Right_s (state_Right (R := R))) := tie_ok TT mixed (state_Right_EOk (R := R)) rfl rfl rfl rfl noT_ok (state_Right_ok topic_Name slices_Max_intint slices_Min_intint)

/-! ### cmp.isNaN[int] -/
abbrev cmp_isNaN_int_ty (R : Type) : Type := Int → (Bool → Option R) → Option R
abbrev cmp_isNaN_int_p : List Pat := [.leaf (.int .i64)]
abbrev cmp_isNaN_int_q : List HPat := []
noncomputable def cmp_isNaN_int_rr (fn : cmp_isNaN_int_ty R) : Run R cmp_isNaN_int_p cmp_isNaN_int_q := fun x y k => fn x.1 (fun q0 => k (.bool q0) [])
noncomputable def cmp_isNaN_int_s (fn : cmp_isNaN_int_ty R) := specBy cmp_isNaN_int_p cmp_isNaN_int_q (cmp_isNaN_int_rr fn)
section
noncomputable def cmp_isNaN_int_X (x1 : Int) (k0 : Bool → Option R) : Option R :=
  k0 (x1 != x1)
theorem cmp_isNaN_int_ok : Tied (R := R) tt [] noT false Tryd.f65 cmp_isNaN_int_p cmp_isNaN_int_q (cmp_isNaN_int_rr cmp_isNaN_int_X) := fun x y k => by kernel_rfl
end
noncomputable def cmp_isNaN_int : cmp_isNaN_int_ty R := fun x1 k0 => cmp_isNaN_int_X x1 k0
theorem cmp_isNaN_int_S_ok (R : Type) : OkS Tryd.prog 65 (cmp_isNaN_int_s (cmp_isNaN_int (R := R))) := tie_ok TT mixed .n rfl rfl rfl rfl noT_ok (cmp_isNaN_int_ok)

/-! ### cmp.Compare[int] -/
abbrev cmp_Compare_int_ty (R : Type) : Type := Int → Int → (Int → Option R) → Option R
abbrev cmp_Compare_int_p : List Pat := [.leaf (.int .i64), .leaf (.int .i64)]
abbrev cmp_Compare_int_q : List HPat := []
noncomputable def cmp_Compare_int_rr (fn : cmp_Compare_int_ty R) : Run R cmp_Compare_int_p cmp_Compare_int_q := fun x y k => fn x.1 x.2.1 (fun q0 => k (.int .i64 q0) [])
noncomputable def cmp_Compare_int_s (fn : cmp_Compare_int_ty R) := specBy cmp_Compare_int_p cmp_Compare_int_q (cmp_Compare_int_rr fn)
section
variable (cmp_isNaN_int : cmp_isNaN_int_ty R)
noncomputable def cmp_Compare_int_E : List (Ent R) := [(65, true, (cmp_isNaN_int_s cmp_isNaN_int specNo))]
noncomputable def cmp_Compare_int_X (x1 : Int) (x2 : Int) (k0 : Int → Option R) : Option R :=
  cmp_isNaN_int x1 (fun y3 => cmp_isNaN_int x2 (fun y4 => bif y3 then (bif y4 then (k0 0) else (k0 (-1))) else (bif y4 then (k0 1) else (bif (decide (x1 < x2)) then (k0 (-1)) else (bif (decide (x1 > x2)) then (k0 1) else (k0 0))))))
theorem cmp_Compare_int_ok : Tied (R := R) tt (cmp_Compare_int_E cmp_isNaN_int) noT false Tryd.f58 cmp_Compare_int_p cmp_Compare_int_q (cmp_Compare_int_rr (cmp_Compare_int_X cmp_isNaN_int)) := fun x y k => by kernel_rfl
end
theorem cmp_Compare_int_EOk : EntOk (R := R) Tryd.prog (cmp_Compare_int_E (R := R) cmp_isNaN_int) := .c (cmp_isNaN_int_S_ok R) <| .n
noncomputable def cmp_Compare_int : cmp_Compare_int_ty R := fun x1 x2 k0 => cmp_Compare_int_X cmp_isNaN_int x1 x2 k0
theorem cmp_Compare_int_S_ok (R : Type) : OkS Tryd.prog 58 (cmp_Compare_int_s (cmp_Compare_int (R := R))) := tie_ok TT mixed (cmp_Compare_int_EOk (R := R)) rfl rfl rfl rfl noT_ok (cmp_Compare_int_ok cmp_isNaN_int)

/-! ### cmp.Or[int] -/
abbrev cmp_Or_int_ty (R : Type) : Type := (List Int) → (Int → Option R) → Option R
abbrev cmp_Or_int_p : List Pat := [.leaf (.sl (.int .i64))]
abbrev cmp_Or_int_q : List HPat := []
noncomputable def cmp_Or_int_rr (fn : cmp_Or_int_ty R) : Run R cmp_Or_int_p cmp_Or_int_q := fun x y k => fn x.1 (fun q0 => k (.int .i64 q0) [])
noncomputable def cmp_Or_int_s (fn : cmp_Or_int_ty R) := specBy cmp_Or_int_p cmp_Or_int_q (cmp_Or_int_rr fn)
abbrev cmp_Or_int_3_0_ty (R : Type) : Type := Nat → Int → (List Int) → Int → Int → (Int → Option R) → (Int → Int → Option R) → Option R
noncomputable def cmp_Or_int_3_0_h : Hint := { live := [3, 6, 7, 8], own := [], rows := [], cells := [], drop := [], out := [2, 3] }
abbrev cmp_Or_int_3_0_D : Type := Int × (List Int) × Int × Int
noncomputable def cmp_Or_int_3_0_enc : cmp_Or_int_3_0_D → St := fun d => ⟨U 3 (.int .i64 d.1 :: U 2 (.sl (.int .i64) d.2.1 .no :: .int .i64 d.2.2.1 :: .int .i64 d.2.2.2 :: U 9 ([]))), []⟩
noncomputable def cmp_Or_int_3_0_x0 (K : Ex → St → Option R) (q0 : Int) : Option R := K (.exit 0) ⟨U 3 (.int .i64 q0 :: U 14 ([])), []⟩
noncomputable def cmp_Or_int_3_0_x1 (K : Ex → St → Option R) (q0 : Int) (q1 : Int) : Option R := K (.ret) ⟨U 2 (.int .i64 q0 :: .int .i64 q1 :: U 14 ([])), []⟩
abbrev cmp_Or_int_3_0_p : List Pat := PU 3 (.leaf (.int .i64) :: PU 2 (.leaf (.sl (.int .i64)) :: .leaf (.int .i64) :: .leaf (.int .i64) :: PU 9 ([])))
abbrev cmp_Or_int_3_0_q : List HPat := []
noncomputable def cmp_Or_int_3_0_f (x : Pat.dens cmp_Or_int_3_0_p) (y : HPat.dens cmp_Or_int_3_0_q) : Nat := (Int.natAbs x.2.2.2.1 + List.length x.2.2.2.2.2.2.1 + Int.natAbs x.2.2.2.2.2.2.2.1 + Int.natAbs ((t8 x).1) + 64)
noncomputable def cmp_Or_int_3_0_d (x : Pat.dens cmp_Or_int_3_0_p) (y : HPat.dens cmp_Or_int_3_0_q) : cmp_Or_int_3_0_D := (x.2.2.2.1, x.2.2.2.2.2.2.1, x.2.2.2.2.2.2.2.1, (t8 x).1)
noncomputable def cmp_Or_int_3_0_rr (L : cmp_Or_int_3_0_ty R) : LRun R cmp_Or_int_3_0_p cmp_Or_int_3_0_q := fun x y K => L (cmp_Or_int_3_0_f x y) x.2.2.2.1 x.2.2.2.2.2.2.1 x.2.2.2.2.2.2.2.1 ((t8 x).1) (cmp_Or_int_3_0_x0 K) (cmp_Or_int_3_0_x1 K)
section
variable (cmp_Or_int_3_0_L : cmp_Or_int_3_0_ty R)
noncomputable def cmp_Or_int_3_0_B (rec' : Int → (List Int) → Int → Int → Option R) (x2 : Int) (x3 : List Int) (x4 : Int) (x5 : Int) (e0 : Int → Option R) (e1 : Int → Int → Option R) : Option R :=
  bif (decide (x5 < x4)) then (chk (decide ((0 : Int) ≤ x5) && decide (x5 < x3.length)) (bif ((x3.getD x5.toNat (Ty.dflt (.int .i64))) != x2) then (e1 (x3.getD x5.toNat (Ty.dflt (.int .i64))) x2) else (rec' x2 x3 x4 (IntKind.i64.wrap (x5 + 1))))) else (e0 x2)
noncomputable def cmp_Or_int_3_0_s (K : Ex → St → Option R) (rc : cmp_Or_int_3_0_D → Option R) (d : cmp_Or_int_3_0_D) : Option R := cmp_Or_int_3_0_B (fun z0 z1 z2 z3 => rc (z0, z1, z2, z3)) d.1 d.2.1 d.2.2.1 d.2.2.2 (cmp_Or_int_3_0_x0 K) (cmp_Or_int_3_0_x1 K)
noncomputable def cmp_Or_int_T : Nat → Option (Hint × LSpec R) := fun i => match i with
  | 3 => some (cmp_Or_int_3_0_h, (loopBy cmp_Or_int_3_0_p cmp_Or_int_3_0_q (cmp_Or_int_3_0_rr cmp_Or_int_3_0_L) loopNo))
  | _ => none
theorem cmp_Or_int_3_0_B_ok (K : Ex → St → Option R) (rc : St → Option R) (d : cmp_Or_int_3_0_D) : roundOf tt (envL []) (cmp_Or_int_T cmp_Or_int_3_0_L) 0 ((loopsOf (codeOf Tryd.f57)).getD 0 .skip) cmp_Or_int_3_0_h (cmp_Or_int_3_0_enc d) rc K = cmp_Or_int_3_0_s K (fun d => rc (cmp_Or_int_3_0_enc d)) d := by kernel_rfl
noncomputable def cmp_Or_int_X (x1 : List Int) (k0 : Int → Option R) : Option R :=
  cmp_Or_int_3_0_L (Int.natAbs 0 + List.length x1 + Int.natAbs (x1.length : Int) + Int.natAbs 0 + 64) 0 x1 (x1.length : Int) 0 (fun y6 => k0 y6) (fun y7 y8 => k0 y7)
theorem cmp_Or_int_ok : Tied (R := R) tt [] (cmp_Or_int_T cmp_Or_int_3_0_L) false Tryd.f57 cmp_Or_int_p cmp_Or_int_q (cmp_Or_int_rr (cmp_Or_int_X cmp_Or_int_3_0_L)) := fun x y k => by kernel_rfl
end
noncomputable def cmp_Or_int_3_0_L : cmp_Or_int_3_0_ty R
  | 0, _, _, _, _, _, _ => none
  | n + 1, x0', x1', x2', x3', e0, e1 => cmp_Or_int_3_0_B (fun x0' x1' x2' x3' => cmp_Or_int_3_0_L n x0' x1' x2' x3' e0 e1) x0' x1' x2' x3' e0 e1
noncomputable def cmp_Or_int_3_0_A (K : Ex → St → Option R) (n : Nat) (d : cmp_Or_int_3_0_D) : Option R := cmp_Or_int_3_0_L n d.1 d.2.1 d.2.2.1 d.2.2.2 (cmp_Or_int_3_0_x0 K) (cmp_Or_int_3_0_x1 K)
theorem cmp_Or_int_3_0_ok (other : LSpec R) (ho : LsOk tt (envL []) (cmp_Or_int_T (R := R) cmp_Or_int_3_0_L) 0 ((loopsOf (codeOf Tryd.f57)).getD 0 .skip) cmp_Or_int_3_0_h other) : LsOk tt (envL []) (cmp_Or_int_T (R := R) cmp_Or_int_3_0_L) 0 ((loopsOf (codeOf Tryd.f57)).getD 0 .skip) cmp_Or_int_3_0_h (loopBy cmp_Or_int_3_0_p cmp_Or_int_3_0_q (cmp_Or_int_3_0_rr (cmp_Or_int_3_0_L)) other) :=
  loopBy_tie (A := cmp_Or_int_3_0_A) ho (loop_tie cmp_Or_int_3_0_enc (cmp_Or_int_3_0_s) (cmp_Or_int_3_0_A) (fun _ _ => by kernel_rfl) (cmp_Or_int_3_0_B_ok cmp_Or_int_3_0_L) (fun _ _ _ => by kernel_rfl)) cmp_Or_int_3_0_f cmp_Or_int_3_0_d (fun _ _ => by kernel_rfl) (fun _ _ _ => by kernel_rfl)
noncomputable def cmp_Or_int : cmp_Or_int_ty R := fun x1 k0 => cmp_Or_int_X cmp_Or_int_3_0_L x1 k0
theorem cmp_Or_int_loops (R : Type) : ∀ a ∈ loopsOf (codeOf Tryd.f57), LoopOk tt (envL []) (cmp_Or_int_T (R := R) cmp_Or_int_3_0_L) 0 a := by
  refine loops_ok 1 (by kernel_rfl) fun i hi => ?_
  match i, hi with
  | 0, _ => exact loopOk_some (by kernel_rfl) (cmp_Or_int_3_0_ok _ loopNo_ok)
  | n + 1, hi => omega
theorem cmp_Or_int_S_ok (R : Type) : OkS Tryd.prog 57 (cmp_Or_int_s (cmp_Or_int (R := R))) := tie_ok TT mixed .n rfl rfl rfl rfl (cmp_Or_int_loops R) (cmp_Or_int_ok cmp_Or_int_3_0_L)

/-! ### humpyard/state.Newer -/
abbrev state_Newer_ty (R : Type) : Type := Yard.State → Yard.State → (Bool → Option R) → Option R
abbrev state_Newer_p : List Pat := [.agg [.int .i64, .int .i64, .str, .int .i64, .int .i64, .bool, .int .i64, .int .i64, .bool, .int .i64], .agg [.int .i64, .int .i64, .str, .int .i64, .int .i64, .bool, .int .i64, .int .i64, .bool, .int .i64]]
abbrev state_Newer_q : List HPat := []
noncomputable def state_Newer_rr (fn : state_Newer_ty R) : Run R state_Newer_p state_Newer_q := fun x y k => fn (⟨x.1.1, x.1.2.1, x.1.2.2.1, x.1.2.2.2.1, x.1.2.2.2.2.1, x.1.2.2.2.2.2.1, x.1.2.2.2.2.2.2.1, x.1.2.2.2.2.2.2.2.1, (t8 x.1).1, (t8 x.1).2.1⟩ : Yard.State) (⟨x.2.1.1, x.2.1.2.1, x.2.1.2.2.1, x.2.1.2.2.2.1, x.2.1.2.2.2.2.1, x.2.1.2.2.2.2.2.1, x.2.1.2.2.2.2.2.2.1, x.2.1.2.2.2.2.2.2.2.1, (t8 x.2.1).1, (t8 x.2.1).2.1⟩ : Yard.State) (fun q0 => k (.bool q0) [])
noncomputable def state_Newer_s (fn : state_Newer_ty R) := specBy state_Newer_p state_Newer_q (state_Newer_rr fn)
section
variable (cmp_Compare_int : cmp_Compare_int_ty R) (cmp_Or_int : cmp_Or_int_ty R)
noncomputable def state_Newer_E : List (Ent R) := [(58, true, (cmp_Compare_int_s cmp_Compare_int specNo)), (57, true, (cmp_Or_int_s cmp_Or_int specNo))]
noncomputable def state_Newer_X (x1 : Yard.State) (x2 : Yard.State) (k0 : Bool → Option R) : Option R :=
  cmp_Compare_int x1.boot x2.boot (fun y3 => cmp_Compare_int x1.header x2.header (fun y4 => cmp_Or_int ([y3, y4] : List Int) (fun y5 => k0 (decide (y5 > (0 : Int))))))
theorem state_Newer_ok : Tied (R := R) tt (state_Newer_E cmp_Compare_int cmp_Or_int) noT false Tryd.f40 state_Newer_p state_Newer_q (state_Newer_rr (state_Newer_X cmp_Compare_int cmp_Or_int)) := fun x y k => by kernel_rfl
end
theorem state_Newer_EOk : EntOk (R := R) Tryd.prog (state_Newer_E (R := R) cmp_Compare_int cmp_Or_int) := .c (cmp_Compare_int_S_ok R) <| .c (cmp_Or_int_S_ok R) <| .n
noncomputable def state_Newer : state_Newer_ty R := fun x1 x2 k0 => state_Newer_X cmp_Compare_int cmp_Or_int x1 x2 k0
theorem state_Newer_S_ok (R : Type) : OkS Tryd.prog 40 (state_Newer_s (state_Newer (R := R))) := tie_ok TT mixed (state_Newer_EOk (R := R)) rfl rfl rfl rfl noT_ok (state_Newer_ok cmp_Compare_int cmp_Or_int)

/-! ### (*humpyard/fleet.ctl).done -/
abbrev fleet_ctl_done_dbb7_ty (R : Type) : Type := Yard.Ctl → (Str → Int → Int → Int → Int → Int → (List Int) → Int → Bool → Int → Bool → Int → Str → Int → Int → Option R) → Option R
abbrev fleet_ctl_done_dbb7_p : List Pat := [.leaf (.ptr 0 0)]
abbrev fleet_ctl_done_dbb7_q : List HPat := [.cells [.str, .int .i64, .int .i64, .int .i64, .int .i64, .int .i64, .sl (.int .i64), .int .i64, .bool, .int .i64, .bool, .int .i64, .str, .int .i64, .int .i64, .sl .stop, .sl .way]]
noncomputable def fleet_ctl_done_dbb7_rr (fn : fleet_ctl_done_dbb7_ty R) : Run R fleet_ctl_done_dbb7_p fleet_ctl_done_dbb7_q := fun x y k => fn (⟨y.1.1, y.1.2.1, y.1.2.2.1, y.1.2.2.2.1, y.1.2.2.2.2.1, y.1.2.2.2.2.2.1, y.1.2.2.2.2.2.2.1, y.1.2.2.2.2.2.2.2.1, (t8 y.1).1, (t8 y.1).2.1, (t8 y.1).2.2.1, ⟨(t8 y.1).2.2.2.1, (t8 y.1).2.2.2.2.1, (t8 y.1).2.2.2.2.2.1, (t8 y.1).2.2.2.2.2.2.1, (t8 y.1).2.2.2.2.2.2.2.1, (t8 (t8 y.1)).1⟩⟩ : Yard.Ctl) (fun q0 q1 q2 q3 q4 q5 q6 q7 q8 q9 q10 q11 q12 q13 q14 => k (.tuple []) [.cells [.str q0, .int .i64 q1, .int .i64 q2, .int .i64 q3, .int .i64 q4, .int .i64 q5, .sl (.int .i64) q6 .no, .int .i64 q7, .bool q8, .int .i64 q9, .bool q10, .int .i64 q11, .str q12, .int .i64 q13, .int .i64 q14, .nilsl, .nilsl]])
noncomputable def fleet_ctl_done_dbb7_s (fn : fleet_ctl_done_dbb7_ty R) := specBy fleet_ctl_done_dbb7_p fleet_ctl_done_dbb7_q (fleet_ctl_done_dbb7_rr fn)
section
noncomputable def fleet_ctl_done_dbb7_X (x1 : Yard.Ctl) (k0 : Str → Int → Int → Int → Int → Int → (List Int) → Int → Bool → Int → Bool → Int → Str → Int → Int → Option R) : Option R :=
  k0 x1.vehicle x1.header x1.order x1.update x1.boot x1.seen x1.path x1.seq x1.open_ x1.rel false 0 ([] : Str) 0 0
theorem fleet_ctl_done_dbb7_ok : Tied (R := R) tt [] noT false Tryd.f41 fleet_ctl_done_dbb7_p fleet_ctl_done_dbb7_q (fleet_ctl_done_dbb7_rr fleet_ctl_done_dbb7_X) := fun x y k => by kernel_rfl
end
noncomputable def fleet_ctl_done_dbb7 : fleet_ctl_done_dbb7_ty R := fun x1 k0 => fleet_ctl_done_dbb7_X x1 k0
theorem fleet_ctl_done_dbb7_S_ok (R : Type) : OkS Tryd.prog 41 (fleet_ctl_done_dbb7_s (fleet_ctl_done_dbb7 (R := R))) := tie_ok TT mixed .n rfl rfl rfl rfl noT_ok (fleet_ctl_done_dbb7_ok)

end Go.Proofs.YtolnaonmpohciaaDoor

set_option maxRecDepth 100000
namespace Go.Proofs.YtolnaonmpohciaaDoor
open Go Go.Yard Go.Lib

def Fm (d : Dcm) : Prop := (d.mant = 0 ∧ d.exp = 0) ∨ (Int.tmod d.mant 10 ≠ 0 ∧ -1000000000000000 ≤ d.mant ∧ d.mant ≤ 1000000000000000 ∧ -9 ≤ d.exp ∧ d.exp ≤ 9)

theorem Fm.bounds {d : Dcm} (h : Fm d) : -1000000000000000 ≤ d.mant ∧ d.mant ≤ 1000000000000000 ∧ -9 ≤ d.exp ∧ d.exp ≤ 9 := by
  rcases h with h | h <;> omega
theorem Fm.zero {d : Dcm} (h : Fm d) (h0 : d.mant = 0) : d = ⟨0, 0⟩ := by
  rcases h with h | h
  · cases d; simp only at h; rw [h.1, h.2]
  · exact (h.1 (by rw [h0]; rfl)).elim
theorem tmod_neg {m : Int} (h : Int.tmod m 10 ≠ 0) : Int.tmod (-m) 10 ≠ 0 := by rw [Int.neg_tmod]; omega
theorem Fm.neg {d : Dcm} (h : Fm d) : Fm ⟨-d.mant, d.exp⟩ := by
  rcases h with h | h
  · exact .inl ⟨by simp only; omega, h.2⟩
  · exact .inr ⟨tmod_neg h.1, by simp only; omega, by simp only; omega, h.2.2.2⟩


def val (d : Dcm) : Int := d.mant * 10 ^ (d.exp + 9).toNat

theorem nDigits_low (u : Nat) (h : 0 < u) : 10 ^ (nDigits u - 1) ≤ u := by
  induction u using Nat.strongRecOn with
  | _ u ih =>
    by_cases h1 : u < 10
    · rw [nDigits_small h1]; exact h
    · rw [nDigits_big h1, Nat.add_sub_cancel]
      have h2 := ih (u / 10) (by omega) (by omega)
      have h3 := nDigits_pos (u / 10)
      have e : nDigits (u / 10) = (nDigits (u / 10) - 1) + 1 := by omega
      rw [e, Nat.pow_succ]
      omega

theorem digits16 {u : Nat} (h : u ≤ 1000000000000000) : nDigits u ≤ 16 := by
  rcases Nat.eq_zero_or_pos u with rfl | h0
  · rw [nDigits_small (by omega)]; omega
  · have h1 := nDigits_low u h0
    rcases Nat.lt_or_ge (nDigits u) 17 with h2 | h2
    · omega
    · have h3 : (10 : Nat) ^ 16 ≤ 10 ^ (nDigits u - 1) := Nat.pow_le_pow_right (by omega) (by omega)
      have e : (10 : Nat) ^ 16 = 10000000000000000 := rfl
      omega

end Go.Proofs.YtolnaonmpohciaaDoor

set_option maxRecDepth 100000
namespace Go.Proofs.YtolnaonmpohciaaDoor
open Go Go.Yard

end Go.Proofs.YtolnaonmpohciaaDoor

set_option maxRecDepth 100000
namespace Go.Proofs.YtolnaonmpohciaaDoor
open Go Go.Yard Go.Lib

def zeros (n : Nat) : Str := List.replicate n 48
theorem zeros_len (n : Nat) : (zeros n).length = n := List.length_replicate
def body (L : Str) (e : Int) : Str :=
  if 0 ≤ e then L ++ zeros e.toNat
  else
    let t := zeros (max 0 (1 - e - (L.length : Int))).toNat ++ L
    t.take ((t.length : Int) + e).toNat ++ [46] ++ t.drop ((t.length : Int) + e).toNat
def prt (d : Dcm) : Str := (if d.mant < 0 then [45] else []) ++ body (decDigits d.mant.natAbs) d.exp


def plainP (s : Str) : Option (Nat × Str) :=
  if s = [] then none else if (decodeL s).1 = 65533 ∧ (decodeL s).2 = 1 then none else if (decodeL s).1 < 32 then none else some ((decodeL s).1, s.drop (decodeL s).2)

def hexv (b : UInt8) : Option Nat :=
  let n := b.toNat
  if 48 ≤ n ∧ n ≤ 57 then some (n - 48) else if 65 ≤ n ∧ n ≤ 70 then some (n - 55) else if 97 ≤ n ∧ n ≤ 102 then some (n - 87) else none
def hexN : Str → Nat → Option Nat
  | [], v => some v
  | b :: t, v => match hexv b with | some d => hexN t (16 * v + d) | none => none



def unitP (s : Str) : Option (Nat × Str) := if s.length < 4 then none else match hexN (s.take 4) 0 with | some v => some (v, s.drop 4) | none => none
def longP (s : Str) : Option (Nat × Str) :=
  match unitP s with
  | none => none
  | some (v, r) =>
    if v < 55296 ∨ 57344 ≤ v then some (v, r) else if 56320 ≤ v then none
    else if ([92, 117] : Str).isPrefixOf r then
      match unitP (r.drop 2) with
      | none => none
      | some (w, r2) => if 56320 ≤ w ∧ w < 57344 then some (65536 + (v - 55296) * 1024 + (w - 56320), r2) else none
    else none

def escP : Str → Option (Nat × Str)
  | [] => none
  | b :: t =>
    if b.toNat = 34 ∨ b.toNat = 92 ∨ b.toNat = 47 then some (b.toNat, t) else if b.toNat = 98 then some (8, t) else if b.toNat = 102 then some (12, t) else if b.toNat = 110 then some (10, t)
    else if b.toNat = 114 then some (13, t) else if b.toNat = 116 then some (9, t) else if b.toNat = 117 then longP t else none


def hexS : Str := [48, 49, 50, 51, 52, 53, 54, 55, 56, 57, 97, 98, 99, 100, 101, 102]

def stepU (s : Str) : Option (Nat × Str) := if ([92] : Str).isPrefixOf s then escP (s.drop 1) else plainP s
def uq : Nat → Str → Str → Option (Str × Str)
  | 0, _, _ => none
  | n + 1, s, o => if ([34] : Str).isPrefixOf s then some (o, s.drop 1) else match stepU s with | none => none | some (c, r) => uq n r (o ++ enc c)

def uqS (s : Str) : Option (Str × Str) := if ([34] : Str).isPrefixOf s then uq (s.length + 1) (s.drop 1) [] else none




def tail (low v n : Nat) : Nat := if v < low ∨ 1114111 < v ∨ (55296 ≤ v ∧ v ≤ 57343) then 0 else n


def qb (b : UInt8) : Str :=
  if b.toNat = 34 ∨ b.toNat = 92 then [92, b] else if b.toNat = 8 then [92, 98] else if b.toNat = 9 then [92, 116] else if b.toNat = 10 then [92, 110] else if b.toNat = 12 then [92, 102] else if b.toNat = 13 then [92, 114]
  else if b.toNat < 32 then [92, 117, 48, 48, hexS.getD (b.toNat / 16) 0, hexS.getD (b.toNat % 16) 0] else [b]

theorem qb_len (b : UInt8) : (qb b).length ≤ 6 := by unfold qb; (repeat' split) <;> simp




theorem dec_all (u : Nat) : ∀ b ∈ decDigits u, 48 ≤ b.toNat ∧ b.toNat ≤ 57 := by
  induction u using Nat.strongRecOn with
  | _ u ih =>
    intro b hb
    by_cases h : u < 10
    · rw [decDigits, dif_pos h] at hb
      simp only [List.mem_cons, List.not_mem_nil, or_false] at hb
      subst hb
      rw [u8_nat _ (by omega)]; omega
    · rw [decDigits, dif_neg h] at hb
      rcases List.mem_append.1 hb with hb | hb
      · exact ih (u / 10) (by omega) b hb
      · simp only [List.mem_cons, List.not_mem_nil, or_false] at hb
        subst hb
        rw [u8_nat _ (by omega)]; omega
theorem dec_first (u : Nat) (hu : 0 < u) : ∃ b t, decDigits u = b :: t ∧ b.toNat ≠ 48 := by
  induction u using Nat.strongRecOn with
  | _ u ih =>
    by_cases h : u < 10
    · exact ⟨_, [], by rw [decDigits, dif_pos h], by rw [u8_nat _ (by omega)]; omega⟩
    · obtain ⟨b, t, e, hb⟩ := ih (u / 10) (by omega) (by omega)
      exact ⟨b, t ++ [UInt8.ofNat (48 + u % 10)], by rw [decDigits, dif_neg h, e]; rfl, hb⟩

def signP (signs s : Str) : Nat × Str := match s with | [] => (0, []) | b :: t => if signs.contains b then (b.toNat, t) else (0, b :: t)

def digS : Str := [48, 49, 50, 51, 52, 53, 54, 55, 56, 57]
def isDig (b : UInt8) : Prop := 48 ≤ b.toNat ∧ b.toNat ≤ 57
theorem prt_parts (d : Dcm) (hd : Fm d) (h0 : d.mant ≠ 0) : ∃ (I F : Str) (pt : Bool) (a b : Nat), prt d = (if decide (d.mant < 0) then [45] else []) ++ (I ++ (if pt then 46 :: F else [])) ∧
    I ++ F = zeros a ++ (decDigits d.mant.natAbs ++ zeros b) ∧ I ≠ [] ∧ (1 < I.length → (I.getD 0 0).toNat ≠ 48) ∧ (pt = true → F ≠ []) ∧ (pt = false → F = []) ∧ (F.length : Int) = (b : Int) - d.exp ∧ I.length + F.length ≤ 40 ∧ (∀ x ∈ I, isDig x) ∧ (∀ x ∈ F, isDig x) := by
  have bd := hd.bounds
  have hall := dec_all d.mant.natAbs
  have hlen : (decDigits d.mant.natAbs).length ≤ 16 := by rw [decDigits_length]; exact digits16 (by omega)
  have hpos : 1 ≤ (decDigits d.mant.natAbs).length := by rw [decDigits_length]; exact nDigits_pos _
  obtain ⟨x0, t0, hfirst, hx0⟩ := dec_first d.mant.natAbs (by omega)
  have hsg : (if d.mant < 0 then ([45] : Str) else []) = if decide (d.mant < 0) then [45] else [] := by by_cases h : d.mant < 0 <;> simp [h]
  unfold prt
  rw [hsg]
  generalize decDigits d.mant.natAbs = L at *
  by_cases he : 0 ≤ d.exp
  · refine ⟨L ++ zeros d.exp.toNat, [], false, 0, d.exp.toNat, ?_, by simp [zeros], ?_, fun _ => ?_, by simp, by simp, by simp; omega, ?_, ?_, by simp⟩
    · unfold body; rw [if_pos he]; simp
    · rw [hfirst]; simp
    · rw [hfirst]; exact hx0
    · rw [List.length_append, zeros_len, List.length_nil]; omega
    · intro x hx
      rcases List.mem_append.1 hx with hx | hx
      · exact hall x hx
      · have := List.eq_of_mem_replicate hx
        subst this; unfold isDig; decide
  · have hz : ∃ z : Nat, (max 0 (1 - d.exp - (L.length : Int))).toNat = z := ⟨_, rfl⟩
    obtain ⟨z, hz⟩ := hz
    have tl : (zeros z ++ L).length = z + L.length := by rw [List.length_append, zeros_len]
    have hat : (((zeros z ++ L).length : Int) + d.exp).toNat = (zeros z ++ L).length - d.exp.natAbs := by omega
    have h1 : d.exp.natAbs + 1 ≤ (zeros z ++ L).length := by omega
    have tdig : ∀ x ∈ zeros z ++ L, isDig x := by
      intro x hx
      rcases List.mem_append.1 hx with hx | hx
      · have := List.eq_of_mem_replicate hx
        subst this; unfold isDig; decide
      · exact hall x hx
    have tfirst : z = 0 → ((zeros z ++ L).getD 0 0).toNat ≠ 48 := by
      rintro rfl
      rw [hfirst]
      exact hx0
    refine ⟨(zeros z ++ L).take ((zeros z ++ L).length - d.exp.natAbs), (zeros z ++ L).drop ((zeros z ++ L).length - d.exp.natAbs), true, z, 0, ?_, ?_, ?_, ?_, fun _ => ?_, (fun h => by cases h), ?_, ?_, ?_, ?_⟩
    · unfold body
      rw [if_neg he]
      simp only [hz, hat, if_true]
      simp
    · rw [List.take_append_drop]; simp [zeros]
    · intro e
      have := congrArg List.length e
      rw [List.length_take, List.length_nil] at this
      omega
    · intro hI
      rw [List.length_take] at hI
      have e : ((zeros z ++ L).take ((zeros z ++ L).length - d.exp.natAbs)).getD 0 0 = (zeros z ++ L).getD 0 0 := by
        have := (getD_app_lt (s := (zeros z ++ L).take ((zeros z ++ L).length - d.exp.natAbs)) (t := (zeros z ++ L).drop ((zeros z ++ L).length - d.exp.natAbs)) (i := 0) (by rw [List.length_take]; omega)).symm
        rw [List.take_append_drop] at this
        exact this
      rw [e]
      exact tfirst (by omega)
    · intro e
      have := congrArg List.length e
      rw [List.length_drop, List.length_nil] at this
      omega
    · rw [List.length_drop]; omega
    · rw [List.length_take, List.length_drop]; omega
    · intro x hx; exact tdig x (List.mem_of_mem_take hx)
    · intro x hx; exact tdig x (List.mem_of_mem_drop hx)

theorem prt_zero : prt ⟨0, 0⟩ = [48] := by
  show [] ++ body (decDigits 0) 0 = [48]
  rw [decDigits_one (by omega)]
  rfl



abbrev isD (b : UInt8) : Bool := digS.contains b
abbrev takeD (s : Str) : Str := s.takeWhile isD
abbrev dropD (s : Str) : Str := s.dropWhile isD

def valD : Str → Nat → Nat
  | [], v => v
  | b :: s, v => valD s (10 * v + (b.toNat - 48))
def expP (X : Str) : Int × Bool × Str :=
  let q := signP [43, 45] X
  let v : Int := min (valD (takeD q.2) 0 : Int) 1000000
  (if q.1 = 45 then -v else v, !(takeD q.2 == []), dropD q.2)

def finD (neg : Bool) (all : Str) (x : Int) : Dcm × Bool :=
  if trimR (trimL all [48]) [48] = [] then (⟨0, 0⟩, true)
  else mkD (if neg then -(valD (trimR (trimL all [48]) [48]) 0 : Int) else (valD (trimR (trimL all [48]) [48]) 0 : Int)) (x + (((trimL all [48]).length : Int) - ((trimR (trimL all [48]) [48]).length : Int)))

def noD : Dcm × Bool := (⟨0, 0⟩, false)
def tailD (neg : Bool) (all : Str) (x : Int) (X : Str) : Dcm × Bool :=
  if (signP [101, 69] X).1 = 0 then (if (signP [101, 69] X).2 = [] then finD neg all x else noD)
  else if (expP (signP [101, 69] X).2).2.1 = false then noD
  else if (expP (signP [101, 69] X).2).2.2 = [] then finD neg all (x + (expP (signP [101, 69] X).2).1) else noD

def parseS (s : Str) : Dcm × Bool :=
  let q := signP [45] s
  let I := takeD q.2
  let r := dropD q.2
  if 400 < s.length then noD else if I = [] then noD else if 1 < I.length ∧ (I.getD 0 0).toNat = 48 then noD
  else if (signP [46] r).1 = 0 then tailD (q.1 != 0) I 0 (signP [46] r).2
  else if takeD (signP [46] r).2 = [] then noD
  else tailD (q.1 != 0) (I ++ takeD (signP [46] r).2) (-((takeD (signP [46] r).2).length : Int)) (dropD (signP [46] r).2)


def numS : Str := [48, 49, 50, 51, 52, 53, 54, 55, 56, 57, 43, 45, 46, 101, 69]
def letS : Str := [97, 98, 99, 100, 101, 102, 103, 104, 105, 106, 107, 108, 109, 110, 111, 112, 113, 114, 115, 116, 117, 118, 119, 120, 121, 122]
def blaS : Str := [32, 9, 10, 13]
def sigS : Str := [123, 125, 91, 93, 44, 58]
def numB (b : UInt8) : Bool := numS.contains b
def letB (b : UInt8) : Bool := letS.contains b
def blaB (b : UInt8) : Bool := blaS.contains b
def sigB (b : UInt8) : Bool := sigS.contains b
def trueS : Str := [116, 114, 117, 101]
def falseS : Str := [102, 97, 108, 115, 101]
def nullS : Str := [110, 117, 108, 108]

def tokS (s : Str) : Option (Token × Str) :=
  match s with
  | [] => none
  | c :: t =>
    if c.toNat = 45 ∨ (48 ≤ c.toNat ∧ c.toNat ≤ 57) then
      (if (parseS (s.takeWhile numB)).2 then some (⟨3, s.takeWhile numB, (parseS (s.takeWhile numB)).1, 0⟩, s.dropWhile numB) else none)
    else if c.toNat = 34 then (match uqS s with | some (o, r) => some (⟨2, o, ⟨0, 0⟩, 0⟩, r) | none => none)
    else if sigB c then some (⟨1, [c], ⟨0, 0⟩, 0⟩, t)
    else if s.takeWhile letB = trueS ∨ s.takeWhile letB = falseS ∨ s.takeWhile letB = nullS then some (⟨4, s.takeWhile letB, ⟨0, 0⟩, 0⟩, s.dropWhile letB)
    else none

abbrev Item3 := Str × Str × Token
def layW : List Item3 → Str → Str
  | [], z => z
  | x :: l, z => x.1 ++ (x.2.1 ++ layW l z)
def stopR (r : Str) : Prop := r = [] ∨ ∃ b u, r = b :: u ∧ numB b = false ∧ letB b = false
theorem prt_chars {d : Dcm} (hd : Fm d) : (∀ b ∈ prt d, numB b = true) ∧ (∃ c u, prt d = c :: u ∧ (c.toNat = 45 ∨ (48 ≤ c.toNat ∧ c.toNat ≤ 57))) ∧ (prt d).length ≤ 60 := by
  have dig : ∀ b : UInt8, isDig b → numB b = true := fun b hb => by
    have all : ∀ n : Fin 256, (48 ≤ n.val ∧ n.val ≤ 57) → numB (UInt8.ofNat n.val) = true := by decide +kernel
    have := all ⟨b.toNat, UInt8.toNat_lt b⟩ hb
    simpa using this
  by_cases h0 : d.mant = 0
  · rw [hd.zero h0, prt_zero]
    exact ⟨by decide, ⟨48, [], rfl, by decide⟩, by simp⟩
  · obtain ⟨I, F, pt, a, b, e1, e2, i0, i1, f0, f1, fl, il, iD, fD⟩ := prt_parts d hd h0
    rw [e1]
    refine ⟨fun x hx => ?_, ?_, ?_⟩
    · rcases List.mem_append.1 hx with hx | hx
      · split at hx
        · simp at hx; subst hx; decide
        · simp at hx
      · rcases List.mem_append.1 hx with hx | hx
        · exact dig x (iD x hx)
        · split at hx
          · rcases List.mem_cons.1 hx with rfl | hx
            · decide
            · exact dig x (fD x hx)
          · simp at hx
    · cases I with
      | nil => exact (i0 rfl).elim
      | cons c I =>
        cases decide (d.mant < 0) with
        | true => exact ⟨45, _, rfl, by decide⟩
        | false => exact ⟨c, _, rfl, .inr (iD c (by simp))⟩
    · cases hdn : decide (d.mant < 0) <;> cases pt <;> simp <;> omega

def sg (c : UInt8) : Item3 := ([], [c], ⟨1, [c], ⟨0, 0⟩, 0⟩)
theorem layW_app : ∀ (a b : List Item3) (z : Str), layW (a ++ b) z = layW a (layW b z)
  | [], _, _ => rfl
  | x :: a, b, z => by simp only [List.cons_append, layW, layW_app a b z]


section
variable {R : Type} (k : Dcm → Bool → Option R) (s : Str) (hs : s.length ≤ 4000000000) (sg : Int) (hsg : sg = 1 ∨ sg = -1) (all : Str) (x : Int) (ha : ∀ c ∈ all, isDig c) (h0 : all ≠ []) (hl : all.length ≤ 900) (hx : -1000 ≤ x ∧ x ≤ 0)
include hs hsg ha h0 hl hx

end


def fmB (d : Dcm) : Bool := (d.mant == 0 && d.exp == 0) || (Int.tmod d.mant 10 != 0 && (decide (-1000000000000000 ≤ d.mant) && decide (d.mant ≤ 1000000000000000) && (decide (-9 ≤ d.exp) && decide (d.exp ≤ 9))))
theorem fmB_iff {d : Dcm} : fmB d = true ↔ Fm d := by
  unfold fmB Fm
  simp [and_assoc]


def prtA (d : Dcm) : Str := if fmB d then prt d else []

def uniqN : List Str → List Str → Bool
  | _, [] => true
  | seen, n :: l => !seen.contains n && validS n && uniqN (n :: seen) l

mutual
def rightJ : Json → Int → Bool
  | ⟨k, n, t, ns, is⟩, d => decide (d ≤ 16) && (decide (1 ≤ k) && decide (k ≤ 7)) && (k == 4 || (n.mant == 0 && n.exp == 0)) && (k == 5 || t.isEmpty) && (k == 7 || ns.isEmpty) && (k == 6 || k == 7 || is.isEmpty) &&
      (if k = 4 then fmB n else if k = 5 then validS t else if k = 7 then decide (ns.length = is.length) && uniqN [] ns && rightL is (d + 1) else rightL is (d + 1))
def rightL : List Json → Int → Bool
  | [], _ => true
  | x :: l, d => rightJ x d && rightL l d
end

inductive RightC : Json → Int → Prop where
  | name (k : Int) (d : Int) (hd : d ≤ 16) (hk : k = 1 ∨ k = 2 ∨ k = 3) : RightC ⟨k, ⟨0, 0⟩, [], [], []⟩ d
  | num (n : Dcm) (d : Int) (hd : d ≤ 16) (hn : Fm n) : RightC ⟨4, n, [], [], []⟩ d
  | text (t : Str) (d : Int) (hd : d ≤ 16) (ht : validS t = true) : RightC ⟨5, ⟨0, 0⟩, t, [], []⟩ d
  | arr (is : List Json) (d : Int) (hd : d ≤ 16) (hi : rightL is (d + 1) = true) : RightC ⟨6, ⟨0, 0⟩, [], [], is⟩ d
  | obj (ns : List Str) (is : List Json) (d : Int) (hd : d ≤ 16) (hl : ns.length = is.length) (hu : uniqN [] ns = true) (hi : rightL is (d + 1) = true) : RightC ⟨7, ⟨0, 0⟩, [], ns, is⟩ d

theorem rightJ_iff {v : Json} {d : Int} : rightJ v d = true ↔ RightC v d := by
  obtain ⟨k, ⟨m, e⟩, t, ns, is⟩ := v
  constructor
  · intro h
    simp only [rightJ, Bool.and_eq_true, Bool.or_eq_true, decide_eq_true_eq, beq_iff_eq, List.isEmpty_iff] at h
    obtain ⟨⟨⟨⟨⟨⟨hd, hk1, hk2⟩, hn⟩, ht⟩, hns⟩, his⟩, hx⟩ := h
    have hk : k = 1 ∨ k = 2 ∨ k = 3 ∨ k = 4 ∨ k = 5 ∨ k = 6 ∨ k = 7 := by omega
    rcases hk with rfl | rfl | rfl | rfl | rfl | rfl | rfl
    · simp at hn ht hns his
      obtain ⟨rfl, rfl⟩ := hn
      subst ht hns his
      exact .name 1 d hd (by omega)
    · simp at hn ht hns his
      obtain ⟨rfl, rfl⟩ := hn
      subst ht hns his
      exact .name 2 d hd (by omega)
    · simp at hn ht hns his
      obtain ⟨rfl, rfl⟩ := hn
      subst ht hns his
      exact .name 3 d hd (by omega)
    · simp at ht hns his hx
      subst ht hns his
      exact .num _ d hd (fmB_iff.1 hx)
    · simp at hn hns his hx
      obtain ⟨rfl, rfl⟩ := hn
      subst hns his
      exact .text t d hd hx
    · simp at hn ht hns hx
      obtain ⟨rfl, rfl⟩ := hn
      subst ht hns
      exact .arr is d hd hx
    · simp at hn ht hx
      obtain ⟨rfl, rfl⟩ := hn
      subst ht
      exact .obj ns is d hd hx.1.1 hx.1.2 hx.2
  · intro h
    cases h with
    | name _ _ hd hk => rcases hk with rfl | rfl | rfl <;> simp [rightJ, rightL, hd]
    | num _ _ hd hn => simp [rightJ, hd, fmB_iff.2 hn]
    | text _ _ hd ht => simp [rightJ, hd, ht]
    | arr _ _ hd hi => simp [rightJ, hd, hi]
    | obj _ _ _ hd hl hu hi => simp [rightJ, hd, hl, hu, hi]

def qtS (t : Str) : Str := 34 :: (t.flatMap qb ++ [34])
mutual
def printJ : Json → Str
  | ⟨k, n, t, ns, is⟩ => if k = 1 then nullS else if k = 2 then falseS else if k = 3 then trueS else if k = 4 then prtA n else if k = 5 then qtS t else if k = 7 then 123 :: (printO ns is true ++ [125]) else 91 :: (printL is true ++ [93])
def printL : List Json → Bool → Str
  | [], _ => []
  | x :: l, first => (if first then [] else [44]) ++ (printJ x ++ printL l false)
def printO : List Str → List Json → Bool → Str
  | _, [], _ => []
  | ns, x :: l, first => (if first then [] else [44]) ++ (qtS (ns.headD []) ++ (58 :: (printJ x ++ printO ns.tail l false)))
end

def txW (t : Str) : Item3 := ([], qtS t, ⟨2, t, ⟨0, 0⟩, 0⟩)
mutual
def wordsJ : Json → List Item3
  | ⟨k, n, t, ns, is⟩ => if k = 1 then [([], nullS, ⟨4, nullS, ⟨0, 0⟩, 0⟩)] else if k = 2 then [([], falseS, ⟨4, falseS, ⟨0, 0⟩, 0⟩)] else if k = 3 then [([], trueS, ⟨4, trueS, ⟨0, 0⟩, 0⟩)]
      else if k = 4 then [([], prtA n, ⟨3, prtA n, n, 0⟩)] else if k = 5 then [txW t] else if k = 7 then sg 123 :: (wordsO ns is true ++ [sg 125]) else sg 91 :: (wordsL is true ++ [sg 93])
def wordsL : List Json → Bool → List Item3
  | [], _ => []
  | x :: l, first => (if first then [] else [sg 44]) ++ (wordsJ x ++ wordsL l false)
def wordsO : List Str → List Json → Bool → List Item3
  | _, [], _ => []
  | ns, x :: l, first => (if first then [] else [sg 44]) ++ (txW (ns.headD []) :: sg 58 :: (wordsJ x ++ wordsO ns.tail l false))
end

mutual
theorem lay_words : ∀ (v : Json) (z : Str), layW (wordsJ v) z = printJ v ++ z
  | ⟨k, n, t, ns, is⟩, z => by
    have hL := lay_wordsL is true
    have hO := lay_wordsO ns is true
    simp only [wordsJ, printJ]
    split
    · simp [layW]
    split
    · simp [layW]
    split
    · simp [layW]
    split
    · simp [layW]
    split
    · simp [layW, txW]
    split
    · simp only [layW, sg, layW_app, hO]; simp [layW, sg]
    · simp only [layW, sg, layW_app, hL]; simp [layW, sg]
theorem lay_wordsL : ∀ (l : List Json) (first : Bool) (z : Str), layW (wordsL l first) z = printL l first ++ z
  | [], _, z => rfl
  | x :: l, first, z => by
    have h1 := lay_words x
    have h2 := lay_wordsL l false
    simp only [wordsL, printL]
    rw [layW_app, layW_app, h1, h2]
    cases first <;> simp [layW, sg]
theorem lay_wordsO : ∀ (ns : List Str) (l : List Json) (first : Bool) (z : Str), layW (wordsO ns l first) z = printO ns l first ++ z
  | ns, [], _, z => by simp [wordsO, printO, layW]
  | ns, x :: l, first, z => by
    have h1 := lay_words x
    have h2 := lay_wordsO ns.tail l false
    simp only [wordsO, printO]
    rw [layW_app]
    simp only [layW, txW, sg, layW_app, h1, h2]
    cases first <;> simp [layW, sg]
end


mutual
def lenJ : Json → Bool
  | ⟨_, _, t, ns, is⟩ => decide (ns.length ≤ 1099511627776) && decide (is.length ≤ 1099511627776) && lenL is && (decide (t.length ≤ 10000000000) && ns.all fun n => decide (n.length ≤ 10000000000))
def lenL : List Json → Bool
  | [] => true
  | x :: l => lenJ x && lenL l
end
theorem lenJ_iff {v : Json} : lenJ v = true ↔ v.names.length ≤ 1099511627776 ∧ v.items.length ≤ 1099511627776 ∧ lenL v.items = true ∧ v.text.length ≤ 10000000000 ∧ ∀ n ∈ v.names, n.length ≤ 10000000000 := by
  obtain ⟨k, n, t, ns, is⟩ := v
  simp [lenJ, and_assoc]



abbrev Bad := Int × List Token
def signS (x : Str) : List Token → Option (List Token)
  | t :: r => if t.kind = 1 ∧ t.text = x then some r else none
  | [] => none
def nameS (ns : List Str) : List Token → Except Bad (Str × List Token)
  | t :: r =>
    if t.kind ≠ 2 then .error (40, t :: r) else if ns.contains t.text then .error (42, t :: r) else
      match signS [58] r with
      | some r' => .ok (t.text, r')
      | none => .error (40, r)
  | [] => .error (0, [])
def partS (f : List Token → Except Bad (Json × List Token)) (obj : Bool) (ns : List Str) (is : List Json) (ts : List Token) : Except Bad ((List Str × List Json) × List Token) :=
  match obj with
  | true =>
    (match nameS ns ts with
     | .error b => .error b
     | .ok (nm, ts1) => (match f ts1 with | .error b => .error b | .ok (v, ts2) => .ok ((ns ++ [nm], is ++ [v]), ts2)))
  | false => (match f ts with | .error b => .error b | .ok (v, ts2) => .ok ((ns, is ++ [v]), ts2))
def listS (f : List Token → Except Bad (Json × List Token)) (cl : Str) (obj : Bool) : Nat → List Str → List Json → List Token → Except Bad ((List Str × List Json) × List Token)
  | 0, _, _, ts => .error (0, ts)
  | m + 1, ns, is, ts =>
    match partS f obj ns is ts with
    | .error b => .error b
    | .ok (p, ts2) =>
      match signS cl ts2 with
      | some r => .ok (p, r)
      | none =>
        match signS [44] ts2 with
        | some r => listS f cl obj m p.1 p.2 r
        | none => .error (40, ts2)
def namedB (t : Str) : Bool := t == nullS || (t == falseS || t == trueS)
def namesM : List (Str × Int) := [(nullS, 1), (falseS, 2), (trueS, 3)]
def openB (t : Str) : Bool := t == [91] || t == [123]
def startB (t : Token) : Bool := t.kind == 2 || (t.kind == 3 || (t.kind == 4 || (t.kind == 1 && openB t.text)))
def valS : Nat → Int → List Token → Except Bad (Json × List Token)
  | 0, _, ts => .error (0, ts)
  | _ + 1, _, [] => .error (0, [])
  | n + 1, d, t :: r =>
    if startB t = false then .error (40, t :: r) else
    if d > 16 then .error (41, t :: r) else
    if t.kind = 1 ∧ openB t.text = true then
      let obj := t.text == [123]
      let k : Int := if obj then 7 else 6
      let cl : Str := if obj then [125] else [93]
      match signS cl r with
      | some r' => .ok (⟨k, ⟨0, 0⟩, [], [], []⟩, r')
      | none =>
        match listS (valS n (d + 1)) cl obj (r.length + 1) [] [] r with
        | .error b => .error b
        | .ok (p, r') => .ok (⟨k, ⟨0, 0⟩, [], p.1, p.2⟩, r')
    else if t.kind = 4 ∧ namedB t.text = true then .ok (⟨mapGet .str (.int .i64) t.text namesM, ⟨0, 0⟩, [], [], []⟩, r)
    else if t.kind = 3 then .ok (⟨4, t.num, [], [], []⟩, r)
    else .ok (⟨5, ⟨0, 0⟩, t.text, [], []⟩, r)


def endT (ts : List Token) : Prop := ∃ e, ts.getLast? = some e ∧ e.kind = 5
theorem endT.tail {t : Token} {r : List Token} (h : endT (t :: r)) (ht : t.kind ≠ 5) : endT r := by
  obtain ⟨e, h1, h2⟩ := h
  cases r with
  | nil =>
    simp at h1
    subst h1
    exact (ht h2).elim
  | cons u r => exact ⟨e, by simpa [List.getLast?_cons_cons] using h1, h2⟩








def stT (t : Token) : Int × Str × Dcm := (t.kind, t.text, t.num)


def stW (x : Item3) : Int × Str × Dcm := stT x.2.2
theorem st_cons {ts : List Token} {x : Item3} {l : List Item3} (h : ts.map stT = (x :: l).map stW) : ∃ t r, ts = t :: r ∧ stT t = stW x ∧ r.map stT = l.map stW := by
  cases ts with
  | nil => cases h
  | cons t r =>
    simp only [List.map_cons, List.cons.injEq] at h
    exact ⟨t, r, rfl, h.1, h.2⟩
theorem st_app {ts : List Token} {a b : List Item3} (h : ts.map stT = (a ++ b).map stW) : ∃ u v, ts = u ++ v ∧ u.map stT = a.map stW ∧ v.map stT = b.map stW := by
  rw [List.map_append] at h
  obtain ⟨u, v, e, h1, h2⟩ := List.map_eq_append_iff.1 h
  exact ⟨u, v, e, h1, h2⟩
theorem st_one {ts : List Token} {x : Item3} (h : ts.map stT = [x].map stW) : ∃ t, ts = [t] ∧ stT t = stW x := by
  obtain ⟨t, r, e, h1, h2⟩ := st_cons h
  cases r with
  | nil => exact ⟨t, e, h1⟩
  | cons u r => cases h2
theorem st_kind {t : Token} {x : Item3} (h : stT t = stW x) : t.kind = x.2.2.kind ∧ t.text = x.2.2.text ∧ t.num = x.2.2.num := by
  unfold stW stT at h
  simp only [Prod.mk.injEq] at h
  exact h

theorem val_name {n : Nat} {d : Int} (hd : d ≤ 16) {t : Token} {rest : List Token} {x : Str} (hx : x = nullS ∨ x = falseS ∨ x = trueS) (hk : t.kind = 4) (ht : t.text = x) :
    valS (n + 1) d (t :: rest) = .ok (⟨mapGet .str (.int .i64) x namesM, ⟨0, 0⟩, [], [], []⟩, rest) := by
  have h1 : startB t = true := by simp [startB, hk]
  have h2 : namedB t.text = true := by
    rw [ht]
    rcases hx with rfl | rfl | rfl <;> rfl
  simp only [valS]
  rw [if_neg (by rw [h1]; simp), if_neg (by omega), if_neg (by rw [hk]; simp), if_pos ⟨hk, h2⟩, ht]

theorem valS_sign {n : Nat} {d : Int} {ts : List Token} {p : Json × List Token} (h : valS n d ts = .ok p) : signS [93] ts = none ∧ signS [125] ts = none := by
  cases n with
  | zero => cases h
  | succ n =>
    cases ts with
    | nil => cases h
    | cons t r =>
      simp only [valS] at h
      by_cases hs : startB t = false
      · rw [if_pos hs] at h; cases h
      · have hne : ∀ x : Str, x = [93] ∨ x = [125] → ¬ (t.kind = 1 ∧ t.text = x) := fun x hx ⟨h1, h2⟩ => by
          apply hs
          rcases hx with rfl | rfl <;> simp [startB, openB, h1, h2]
        simp only [signS]
        rw [if_neg (hne _ (.inl rfl)), if_neg (hne _ (.inr rfl))]
        exact ⟨rfl, rfl⟩

mutual
theorem valS_words : ∀ (v : Json) (d : Int) (n : Nat) (ts rest : List Token), rightJ v d = true → 17 - d < n → ts.map stT = (wordsJ v).map stW → valS n d (ts ++ rest) = .ok (v, rest)
  | ⟨k, nm, t, ns, is⟩, d, 0, ts, rest, h, hn, hw => by
    have : d ≤ 16 := by
      cases rightJ_iff.1 h <;> assumption
    omega
  | ⟨k, nm, t, ns, is⟩, d, n + 1, ts, rest, h, hn, hw => by
    have hL := listS_wL is
    have hO := listS_wO ns is
    cases rightJ_iff.1 h with
    | name _ _ hd hk =>
      have hone : ∀ x : Str, (x = nullS ∨ x = falseS ∨ x = trueS) → ts.map stT = [(([], x, ⟨4, x, ⟨0, 0⟩, 0⟩) : Item3)].map stW → valS (n + 1) d (ts ++ rest) = .ok (⟨mapGet .str (.int .i64) x namesM, ⟨0, 0⟩, [], [], []⟩, rest) := fun x hx hw => by
        obtain ⟨u, rfl, hu⟩ := st_one hw
        obtain ⟨h1, h2, _⟩ := st_kind hu
        exact val_name hd hx h1 h2
      rcases hk with rfl | rfl | rfl
      · exact hone nullS (.inl rfl) hw
      · exact hone falseS (.inr (.inl rfl)) hw
      · exact hone trueS (.inr (.inr rfl)) hw
    | num _ _ hd hnm =>
      obtain ⟨u, rfl, hu⟩ := st_one (x := ([], prtA nm, ⟨3, prtA nm, nm, 0⟩)) hw
      obtain ⟨h1, h2, h3⟩ := st_kind hu
      simp only at h1 h2 h3
      have hs : startB u = true := by simp [startB, h1]
      show valS (n + 1) d (u :: rest) = _
      simp only [valS]
      rw [if_neg (by rw [hs]; simp), if_neg (by omega), if_neg (by rw [h1]; simp), if_neg (by rw [h1]; simp), if_pos h1, h3]
    | text _ _ hd ht =>
      obtain ⟨u, rfl, hu⟩ := st_one (x := txW t) hw
      obtain ⟨h1, h2, h3⟩ := st_kind hu
      simp only [txW] at h1 h2 h3
      have hs : startB u = true := by simp [startB, h1]
      show valS (n + 1) d (u :: rest) = _
      simp only [valS]
      rw [if_neg (by rw [hs]; simp), if_neg (by omega), if_neg (by rw [h1]; simp), if_neg (by rw [h1]; simp), if_neg (by rw [h1]; simp), h2]
    | arr _ _ hd hi =>
      obtain ⟨u, ts2, rfl, hu, hw2⟩ := st_cons (x := sg 91) (l := wordsL is true ++ [sg 93]) hw
      obtain ⟨tl, tc, rfl, hl, hc0⟩ := st_app hw2
      obtain ⟨c, rfl, hc⟩ := st_one hc0
      obtain ⟨h1, h2, _⟩ := st_kind hu
      obtain ⟨c1, c2, _⟩ := st_kind hc
      simp only [sg] at h1 h2 c1 c2
      have hob : openB u.text = true := by rw [h2]; rfl
      have hs : startB u = true := by simp [startB, h1, hob]
      have ho7 : (u.text == ([123] : Str)) = false := by rw [h2]; rfl
      show valS (n + 1) d (u :: (tl ++ [c] ++ rest)) = _
      simp only [valS]
      rw [if_neg (by rw [hs]; simp), if_neg (by omega), if_pos ⟨h1, hob⟩, ho7]
      simp only [Bool.false_eq_true, if_false]
      cases is with
      | nil =>
        obtain rfl : tl = [] := by simpa [wordsL] using hl
        show (match signS [93] (c :: rest) with | some r' => _ | none => _) = _
        have : signS [93] (c :: rest) = some rest := by
          show (if c.kind = 1 ∧ c.text = [93] then some rest else none) = some rest
          rw [if_pos ⟨c1, c2⟩]
        rw [this]
      | cons x l =>
        obtain ⟨e1, e2⟩ := hL d n (tl ++ [c] ++ rest).length.succ [] [] tl c rest (by simp) hi (by omega) (by simp; omega) hl c1 c2
        rw [e1, e2]
        rfl
    | obj _ _ _ hd hlen hu7 hi =>
      obtain ⟨u, ts2, rfl, hu, hw2⟩ := st_cons (x := sg 123) (l := wordsO ns is true ++ [sg 125]) hw
      obtain ⟨tl, tc, rfl, hl, hc0⟩ := st_app hw2
      obtain ⟨c, rfl, hc⟩ := st_one hc0
      obtain ⟨h1, h2, _⟩ := st_kind hu
      obtain ⟨c1, c2, _⟩ := st_kind hc
      simp only [sg] at h1 h2 c1 c2
      have hob : openB u.text = true := by rw [h2]; rfl
      have hs : startB u = true := by simp [startB, h1, hob]
      have ho7 : (u.text == ([123] : Str)) = true := by rw [h2]; rfl
      show valS (n + 1) d (u :: (tl ++ [c] ++ rest)) = _
      simp only [valS]
      rw [if_neg (by rw [hs]; simp), if_neg (by omega), if_pos ⟨h1, hob⟩, ho7]
      simp only [if_true]
      cases is with
      | nil =>
        obtain rfl : ns = [] := List.eq_nil_of_length_eq_zero hlen
        obtain rfl : tl = [] := by simpa [wordsO] using hl
        show (match signS [125] (c :: rest) with | some r' => _ | none => _) = _
        have : signS [125] (c :: rest) = some rest := by
          show (if c.kind = 1 ∧ c.text = [125] then some rest else none) = some rest
          rw [if_pos ⟨c1, c2⟩]
        rw [this]
      | cons x l =>
        obtain ⟨e1, e2⟩ := hO d n (tl ++ [c] ++ rest).length.succ [] [] [] tl c rest (by simp) hlen hi hu7 (fun n => rfl) (by omega) (by simp; omega) hl c1 c2
        rw [e1, e2]
        rfl
theorem listS_wL : ∀ (is : List Json) (d : Int) (n m : Nat) (ns0 : List Str) (is0 : List Json) (tl : List Token) (c : Token) (rest : List Token), is ≠ [] → rightL is (d + 1) = true → 17 - (d + 1) < n → tl.length < m →
    tl.map stT = (wordsL is true).map stW → c.kind = 1 → c.text = [93] → signS [93] (tl ++ [c] ++ rest) = none ∧ listS (valS n (d + 1)) [93] false m ns0 is0 (tl ++ [c] ++ rest) = .ok ((ns0, is0 ++ is), rest)
  | [], _, _, _, _, _, _, _, _, h, _, _, _, _, _, _ => (h rfl).elim
  | x :: l, d, n, 0, ns0, is0, tl, c, rest, _, hr, hn, hm, hw, c1, c2 => by omega
  | x :: l, d, n, m + 1, ns0, is0, tl, c, rest, _, hr, hn, hm, hw, c1, c2 => by
    obtain ⟨tv, tr, rfl, hv, ht⟩ := st_app (a := wordsJ x) (b := wordsL l false) hw
    simp only [rightL, Bool.and_eq_true] at hr
    have hx := valS_words x (d + 1) n tv (tr ++ [c] ++ rest) hr.1 hn hv
    have hL := listS_wL l
    rw [show tv ++ tr ++ [c] ++ rest = tv ++ (tr ++ [c] ++ rest) by simp]
    refine ⟨(valS_sign hx).1, ?_⟩
    have hp : partS (valS n (d + 1)) false ns0 is0 (tv ++ (tr ++ [c] ++ rest)) = .ok ((ns0, is0 ++ [x]), tr ++ [c] ++ rest) := by
      simp only [partS, hx]
    simp only [listS, hp]
    cases l with
    | nil =>
      obtain rfl : tr = [] := by simpa [wordsL] using ht
      have : signS [93] ([] ++ [c] ++ rest) = some rest := by
        show (if c.kind = 1 ∧ c.text = [93] then some rest else none) = some rest
        rw [if_pos ⟨c1, c2⟩]
      rw [this]
    | cons y l' =>
      obtain ⟨u, tr', rfl, hu, ht'⟩ := st_cons (x := sg 44) (l := wordsL (y :: l') true) ht
      obtain ⟨u1, u2, _⟩ := st_kind hu
      simp only [sg] at u1 u2
      have s1 : signS [93] (u :: tr' ++ [c] ++ rest) = none := by
        show (if u.kind = 1 ∧ u.text = [93] then some (tr' ++ [c] ++ rest) else none) = none
        rw [if_neg (by rw [u2]; rintro ⟨_, h⟩; cases h)]
      have s2 : signS [44] (u :: tr' ++ [c] ++ rest) = some (tr' ++ [c] ++ rest) := by
        show (if u.kind = 1 ∧ u.text = [44] then some (tr' ++ [c] ++ rest) else none) = _
        rw [if_pos ⟨u1, u2⟩]
      rw [s1, s2]
      obtain ⟨_, e2⟩ := hL d n m ns0 (is0 ++ [x]) tr' c rest (by simp) hr.2 hn (by simp at hm; omega) ht' c1 c2
      simp only
      rw [e2]
      simp
theorem listS_wO : ∀ (ns : List Str) (is : List Json) (d : Int) (n m : Nat) (ns0 : List Str) (is0 : List Json) (seen : List Str) (tl : List Token) (c : Token) (rest : List Token), is ≠ [] → ns.length = is.length → rightL is (d + 1) = true → uniqN seen ns = true → (∀ n, ns0.contains n = seen.contains n) →
    17 - (d + 1) < n → tl.length < m →
    tl.map stT = (wordsO ns is true).map stW → c.kind = 1 → c.text = [125] → signS [125] (tl ++ [c] ++ rest) = none ∧ listS (valS n (d + 1)) [125] true m ns0 is0 (tl ++ [c] ++ rest) = .ok ((ns0 ++ ns, is0 ++ is), rest)
  | _, [], _, _, _, _, _, _, _, _, _, h, _, _, _, _, _, _, _, _, _ => (h rfl).elim
  | [], x :: l, d, n, m, ns0, is0, seen, tl, c, rest, _, hlen, hr, hu, hsn, hn, hm, hw, c1, c2 => by cases hlen
  | nm :: ns, x :: l, d, n, 0, ns0, is0, seen, tl, c, rest, _, hlen, hr, hu, hsn, hn, hm, hw, c1, c2 => by omega
  | nm :: ns, x :: l, d, n, m + 1, ns0, is0, seen, tl, c, rest, _, hlen, hr, hu, hsn, hn, hm, hw, c1, c2 => by
    obtain ⟨tn, tl1, rfl, hn1, hw1⟩ := st_cons (x := txW nm) (l := sg 58 :: (wordsJ x ++ wordsO ns l false)) hw
    obtain ⟨tk, tl2, rfl, hk1, hw2⟩ := st_cons hw1
    obtain ⟨tv, tr, rfl, hv, ht⟩ := st_app hw2
    obtain ⟨n1, n2, _⟩ := st_kind hn1
    obtain ⟨k1, k2, _⟩ := st_kind hk1
    simp only [txW] at n1 n2
    simp only [sg] at k1 k2
    simp only [rightL, Bool.and_eq_true] at hr
    simp only [uniqN, Bool.and_eq_true, Bool.not_eq_true'] at hu
    have hx := valS_words x (d + 1) n tv (tr ++ [c] ++ rest) hr.1 hn hv
    have hO := listS_wO ns l
    rw [show tn :: tk :: (tv ++ tr) ++ [c] ++ rest = tn :: tk :: (tv ++ (tr ++ [c] ++ rest)) by simp]
    refine ⟨?_, ?_⟩
    · show (if tn.kind = 1 ∧ tn.text = [125] then some _ else none) = none
      rw [if_neg (by rw [n1]; rintro ⟨h, _⟩; cases h)]
    have hnm : nameS ns0 (tn :: tk :: (tv ++ (tr ++ [c] ++ rest))) = .ok (nm, tv ++ (tr ++ [c] ++ rest)) := by
      simp only [nameS]
      rw [if_neg (by rw [n1]; simp), if_neg (by rw [n2, hsn, hu.1.1]; simp)]
      have : signS [58] (tk :: (tv ++ (tr ++ [c] ++ rest))) = some (tv ++ (tr ++ [c] ++ rest)) := by
        show (if tk.kind = 1 ∧ tk.text = [58] then some (tv ++ (tr ++ [c] ++ rest)) else none) = _
        rw [if_pos ⟨k1, k2⟩]
      rw [this, n2]
    have hp : partS (valS n (d + 1)) true ns0 is0 (tn :: tk :: (tv ++ (tr ++ [c] ++ rest))) = .ok ((ns0 ++ [nm], is0 ++ [x]), tr ++ [c] ++ rest) := by
      simp only [partS, hnm, hx]
    simp only [listS, hp]
    cases l with
    | nil =>
      obtain rfl : ns = [] := List.eq_nil_of_length_eq_zero (by simpa using hlen)
      obtain rfl : tr = [] := by simpa [wordsO] using ht
      have : signS [125] ([] ++ [c] ++ rest) = some rest := by
        show (if c.kind = 1 ∧ c.text = [125] then some rest else none) = some rest
        rw [if_pos ⟨c1, c2⟩]
      rw [this]
    | cons y l' =>
      obtain ⟨u, tr', rfl, hu2, ht'⟩ := st_cons (x := sg 44) (l := wordsO ns (y :: l') true) ht
      obtain ⟨u1, u2, _⟩ := st_kind hu2
      simp only [sg] at u1 u2
      have s1 : signS [125] (u :: tr' ++ [c] ++ rest) = none := by
        show (if u.kind = 1 ∧ u.text = [125] then some (tr' ++ [c] ++ rest) else none) = none
        rw [if_neg (by rw [u2]; rintro ⟨_, h⟩; cases h)]
      have s2 : signS [44] (u :: tr' ++ [c] ++ rest) = some (tr' ++ [c] ++ rest) := by
        show (if u.kind = 1 ∧ u.text = [44] then some (tr' ++ [c] ++ rest) else none) = _
        rw [if_pos ⟨u1, u2⟩]
      rw [s1, s2]
      obtain ⟨_, e2⟩ := hO d n m (ns0 ++ [nm]) (is0 ++ [x]) (nm :: seen) tr' c rest (by simp) (by simpa using hlen) hr.2 hu.2 (fun z => by
        rw [List.contains_append, hsn, List.contains_cons, List.contains_cons, List.contains_nil, Bool.or_false, Bool.or_comm]) hn (by simp at hm; omega) ht' c1 c2
      simp only
      rw [e2]
      simp
end

def tight (l : List Item3) : Prop := ∀ x ∈ l, x.1 = []
mutual
theorem tightJ : ∀ v : Json, tight (wordsJ v)
  | ⟨k, n, t, ns, is⟩ => by
    have hL := tightL is
    have hO := tightO ns is
    intro x hx
    simp only [wordsJ] at hx
    split at hx
    · simp at hx; rw [hx]
    split at hx
    · simp at hx; rw [hx]
    split at hx
    · simp at hx; rw [hx]
    split at hx
    · simp at hx; rw [hx]
    split at hx
    · simp [txW] at hx; rw [hx]
    split at hx
    · simp only [List.mem_cons, List.mem_append, List.not_mem_nil, or_false] at hx
      rcases hx with rfl | hx | rfl
      · rfl
      · exact hO true x hx
      · rfl
    · simp only [List.mem_cons, List.mem_append, List.not_mem_nil, or_false] at hx
      rcases hx with rfl | hx | rfl
      · rfl
      · exact hL true x hx
      · rfl
theorem tightL : ∀ (l : List Json) (first : Bool), tight (wordsL l first)
  | [], _ => by intro x hx; simp [wordsL] at hx
  | y :: l, first => by
    have h1 := tightJ y
    have h2 := tightL l false
    intro x hx
    simp only [wordsL, List.mem_append] at hx
    rcases hx with hx | hx | hx
    · cases first
      · simp at hx; rw [hx]; rfl
      · simp at hx
    · exact h1 x hx
    · exact h2 x hx
theorem tightO : ∀ (ns : List Str) (l : List Json) (first : Bool), tight (wordsO ns l first)
  | _, [], _ => by intro x hx; simp [wordsO] at hx
  | ns, y :: l, first => by
    have h1 := tightJ y
    have h2 := tightO ns.tail l false
    intro x hx
    simp only [wordsO, List.mem_append, List.mem_cons] at hx
    rcases hx with hx | rfl | rfl | hx | hx
    · cases first
      · simp at hx; rw [hx]; rfl
      · simp at hx
    · rfl
    · rfl
    · exact h1 x hx
    · exact h2 x hx
end


end Go.Proofs.YtolnaonmpohciaaDoor

namespace Go.Yard
open Go.RowKit Go.Proofs.YtolnaonmpohciaaDoor Go.ChangeShapes Go.WideShapes

mutual
inductive Wt : Nat → V → Prop where
  | int {n : Nat} {k : IntKind} {z : Int} (h1 : 1 ≤ n) (h : k.has z) : Wt n (.int k z)
  | bool {n : Nat} (h1 : 1 ≤ n) (b : Bool) : Wt n (.bool b)
  | str {n : Nat} {s : Str} (h : s.length + 1 ≤ n) : Wt n (.str s)
  | sl {n m : Nat} {T : Ty} {l : List T.den} (h : m + 1 ≤ n) (he : WtLL m (l.map T.cells)) : Wt n (.sl T l .no)
inductive WtL : Nat → List V → Prop where
  | nil : WtL 0 []
  | cons {a b : Nat} {v : V} {vs : List V} (h : Wt a v) (t : WtL b vs) : WtL (a + b) (v :: vs)
inductive WtLL : Nat → List (List V) → Prop where
  | nil : WtLL 0 []
  | cons {a b : Nat} {v : List V} {vs : List (List V)} (h : WtL a v) (t : WtLL b vs) : WtLL (a + b) (v :: vs)
end

section
variable {H : Type} {enc : TypeId × Value → H} {P : Program} {tt : TTab} {w : World} {spare : Nat → Bool} {held : Bool}

def ReadsW (w : World) (N : Nat) (ls : List Leaf) (cs : List Value) : Prop := ∃ vs n, IsEnc ls vs ∧ RepL w [] cfg0 vs cs ∧ WtL n vs ∧ n ≤ N
theorem ReadsW.nil {N : Nat} : ReadsW w N [] [] := ⟨[], 0, .nil, .nil, .nil, Nat.zero_le _⟩
end
end Go.Yard

set_option maxRecDepth 100000
namespace Go.Proofs.YtolnaonmpohciaaDoor
open Go Go.Yard Go.Lib

mutual
def Raw.tot : Raw → Nat
  | ⟨_, _, _, _, is⟩ => Raw.totL is + 1
def Raw.totL : List Raw → Nat
  | [] => 0
  | x :: l => Raw.tot x + Raw.totL l
end
mutual
def Raw.ok : Raw → Prop
  | ⟨k, m, e, t, is⟩ => (I64 k ∧ I64 m ∧ I64 e ∧ ∀ c ∈ t, I64 c) ∧ (t.length ≤ 1048576 ∧ is.length ≤ 1048576) ∧ Raw.okL is
def Raw.okL : List Raw → Prop
  | [] => True
  | x :: l => Raw.ok x ∧ Raw.okL l
end
theorem wtll_len {T : Ty} : ∀ (l : List T.den) (m : Nat), WtLL m (l.map T.cells) → (∀ (x : T.den) n, WtL n (T.cells x) → 1 ≤ n) → l.length ≤ m
  | [], _, _, _ => Nat.zero_le _
  | x :: l, _, .cons h t, hh => by
    have h1 := hh x _ h
    have h2 := wtll_len l _ t hh
    simp only [List.length_cons]
    omega
theorem wt_pos {n : Nat} {v : V} (h : Wt n v) : 1 ≤ n := by
  cases h <;> omega
theorem wt_ints : ∀ (l : List (Ty.den (.int .i64))) (m : Nat), WtLL m (l.map (Ty.cells (.int .i64))) → ∀ c ∈ (l : List Int), I64 c
  | [], _, _, c, hc => by cases hc
  | x :: l, _, .cons h t, c, hc => by
    rcases List.mem_cons.1 hc with rfl | hc
    · have h' : WtL _ [V.int .i64 c] := h
      cases h' with
      | cons a b => cases a with | int _ hk => exact i64_has.1 hk
    · exact wt_ints l _ t c hc
mutual
theorem wt_raw : ∀ (x : Raw) (n : Nat), n ≤ 1048576 → WtL n (Ty.cells .raw x) → Raw.tot x ≤ n ∧ Raw.ok x
  | ⟨k, m, e, t, is⟩, n, hn, h => by
    have hL := wt_rawL is
    have h' : WtL n [.int .i64 k, .int .i64 m, .int .i64 e, .sl (.int .i64) t .no, .sl .raw is .no] := h
    cases h' with
    | cons a1 h' => cases h' with
      | cons a2 h' => cases h' with
        | cons a3 h' => cases h' with
          | cons a4 h' => cases h' with
            | cons a5 h' =>
              cases h'
              cases a1 with | int p1 k1 =>
              cases a2 with | int p2 k2 =>
              cases a3 with | int p3 k3 =>
              cases a4 with | sl p4 w4 =>
              cases a5 with | sl p5 w5 =>
              have hl4 := wtll_len (T := .int .i64) t _ w4 (fun x n h => by
                have h' : WtL n [V.int .i64 x] := h
                cases h' with | cons a b => have := wt_pos a; omega)
              have hl5 := wtll_len (T := .raw) is _ w5 (fun x n h => by
                have h' : WtL n (.int .i64 x.kind :: _) := h
                cases h' with | cons a b => have := wt_pos a; omega)
              obtain ⟨g1, g2⟩ := hL _ (by omega) w5
              refine ⟨by simp only [Raw.tot]; omega, ⟨i64_has.1 k1, i64_has.1 k2, i64_has.1 k3, wt_ints t _ w4⟩, ⟨Nat.le_trans hl4 (by omega), Nat.le_trans hl5 (by omega)⟩, g2⟩
theorem wt_rawL : ∀ (l : List Raw) (n : Nat), n ≤ 1048576 → WtLL n (l.map (Ty.cells .raw)) → Raw.totL l ≤ n ∧ Raw.okL l
  | [], _, _, _ => ⟨Nat.zero_le _, trivial⟩
  | x :: l, _, hn, .cons h t => by
    obtain ⟨a1, a2⟩ := wt_raw x _ (by omega) h
    obtain ⟨b1, b2⟩ := wt_rawL l _ (by omega) t
    exact ⟨by simp only [Raw.totL]; omega, a2, b2⟩
end
theorem qtS_len (t : Str) : (qtS t).length ≤ 6 * t.length + 2 := by
  unfold qtS
  have : ∀ l : Str, (l.flatMap qb).length ≤ 6 * l.length := by
    intro l
    induction l with
    | nil => simp
    | cons b l ih =>
      have := qb_len b
      simp only [List.flatMap_cons, List.length_append, List.length_cons]
      omega
  have := this t
  simp only [List.length_cons, List.length_append, List.length_nil]
  omega

structure FitV (R : Type) (v : Json) (d : Int) (n : Nat) : Prop where
  right : rightJ v d = true
  len : lenJ v = true
  size : (printJ v).length + 5000 ≤ 10000 * n

structure Held (q : Int) (d : Int) (ns : List Str) (is : List Json) (n : Nat) : Prop where
  right : rightL is (d + 1) = true
  len : lenL is = true
  count : is.length ≤ 12
  names : (q = 7 ∧ ns.length = is.length ∧ uniqN [] ns = true ∧ (∀ t ∈ ns, t.length ≤ 1000) ∧ (printO ns is true).length ≤ 10000 * n) ∨ (q = 6 ∧ ns = [] ∧ (printL is true).length ≤ 10000 * n)



theorem prtA_len {d : Dcm} (h : Fm d) : (prtA d).length ≤ 60 := by
  have e : prtA d = prt d := by unfold prtA; rw [fmB_iff.2 h]; rfl
  rw [e]
  exact (prt_chars h).2.2




structure Lone (x : Item3) : Prop where
  head : ∃ c u, x.2.1 = c :: u ∧ blaB c = false
  met : ∀ r, stopR r → tokS (x.2.1 ++ r) = some (x.2.2, r)
  quo : x.2.2.kind = 2 → validS x.2.2.text = true ∧ x.2.1 = qtS x.2.2.text
  own : x.2.2.kind ≠ 2 → x.2.2.text = x.2.1






mutual
def i64J : Json → Prop
  | ⟨k, n, t, ns, is⟩ => I64 n.mant ∧ I64 n.exp ∧ i64L is
def i64L : List Json → Prop
  | [] => True
  | x :: l => i64J x ∧ i64L l
end



theorem wt_strs : ∀ (l : List (Ty.den .str)) (m : Nat), WtLL m (l.map (Ty.cells .str)) → l.length ≤ m ∧ ∀ t ∈ (l : List Str), t.length ≤ m
  | [], _, _ => ⟨Nat.zero_le _, fun t h => by cases h⟩
  | x :: l, _, .cons h t => by
    obtain ⟨h1, h2⟩ := wt_strs l _ t
    have h' : WtL _ [V.str x] := h
    cases h' with
    | cons a b =>
      cases a with
      | str hx =>
        have hx' : List.length (x : Str) + 1 ≤ _ := hx
        refine ⟨by simp only [List.length_cons]; omega, fun u hu => ?_⟩
        rcases List.mem_cons.1 hu with hu | hu
        · have : List.length u = List.length (x : Str) := congrArg List.length hu
          omega
        · have := h2 u hu; omega
def sumS : List Str → Nat
  | [] => 0
  | t :: l => t.length + 1 + sumS l
theorem wt_sum : ∀ (l : List (Ty.den .str)) (m : Nat), WtLL m (l.map (Ty.cells .str)) → sumS l ≤ m
  | [], _, _ => Nat.zero_le _
  | x :: l, _, .cons h t => by
    have h1 := wt_sum l _ t
    have h' : WtL _ [V.str x] := h
    cases h' with
    | cons a b =>
      cases a with
      | str hx =>
        have hx' : List.length (x : Str) + 1 ≤ _ := hx
        show List.length (x : Str) + 1 + sumS l ≤ _
        omega
theorem prtA_any (d : Dcm) : (prtA d).length ≤ 60 := by
  cases h : fmB d with
  | true => exact prtA_len (fmB_iff.1 h)
  | false => unfold prtA; rw [h]; simp
mutual
theorem wt_json : ∀ (v : Json) (n : Nat), n ≤ 1048576 → WtL n (Ty.cells .json v) → lenJ v = true ∧ i64J v ∧ (printJ v).length + 50 ≤ 100 * n
  | ⟨k, ⟨m, e⟩, t, ns, is⟩, n, hn, h => by
    have hL := wt_jsonL is
    have hO := wt_jsonO is ns
    have h' : WtL n [.int .i64 k, .int .i64 m, .int .i64 e, .str t, .sl .str ns .no, .sl .json is .no] := h
    cases h' with
    | cons a1 h' => cases h' with
      | cons a2 h' => cases h' with
        | cons a3 h' => cases h' with
          | cons a4 h' => cases h' with
            | cons a5 h' => cases h' with
              | cons a6 h' =>
                cases h'
                cases a1 with | int p1 k1 =>
                cases a2 with | int p2 k2 =>
                cases a3 with | int p3 k3 =>
                cases a4 with | str p4 =>
                cases a5 with | sl p5 w5 =>
                cases a6 with | sl p6 w6 =>
                obtain ⟨s1, s2⟩ := wt_strs ns _ w5
                have s3 := wt_sum ns _ w5
                have s1' : List.length (α := Str) ns ≤ _ := s1
                have s2' : ∀ t ∈ ns, List.length t ≤ _ := s2
                obtain ⟨l1, l2, l3, l4⟩ := hL _ (by omega) w6
                have l5 := hO true _ (by omega) w6
                have l4' := l4 true
                refine ⟨lenJ_iff.2 ⟨by simp only; omega, by simp only; omega, l1, by simp only; omega, fun u hu => by have := s2' u hu; omega⟩, ⟨i64_has.1 k2, i64_has.1 k3, l2⟩, ?_⟩
                have hq := qtS_len t
                have hp := prtA_any ⟨m, e⟩
                have n1 : nullS.length = 4 := rfl
                have n2 : falseS.length = 5 := rfl
                have n3 : trueS.length = 4 := rfl
                simp only [printJ]
                split
                · omega
                split
                · omega
                split
                · omega
                split
                · omega
                split
                · omega
                split
                · simp only [List.length_cons, List.length_append, List.length_nil]; omega
                · simp only [List.length_cons, List.length_append, List.length_nil]; omega
theorem wt_jsonL : ∀ (l : List Json) (n : Nat), n ≤ 1048576 → WtLL n (l.map (Ty.cells .json)) → lenL l = true ∧ i64L l ∧ l.length ≤ n ∧ ∀ b : Bool, (printL l b).length ≤ 100 * n
  | [], n, _, _ => ⟨rfl, trivial, Nat.zero_le _, fun _ => by simp [printL]⟩
  | x :: l, _, hn, .cons h t => by
    obtain ⟨a1, a2, a3⟩ := wt_json x _ (by omega) h
    obtain ⟨b1, b2, b3, b4⟩ := wt_jsonL l _ (by omega) t
    refine ⟨by simp only [lenL, a1, b1]; rfl, ⟨a2, b2⟩, by simp only [List.length_cons]; omega, fun b => ?_⟩
    have b5 := b4 false
    simp only [printL, List.length_append]
    have : (if b = true then ([] : Str) else [44]).length ≤ 1 := by cases b <;> simp
    omega
theorem wt_jsonO : ∀ (l : List Json) (ns : List Str) (b : Bool) (n : Nat), n ≤ 1048576 → WtLL n (l.map (Ty.cells .json)) → (printO ns l b).length ≤ 100 * n + 6 * sumS ns
  | [], ns, _, n, _, _ => by simp [printO]
  | x :: l, ns, b, _, hn, .cons h t => by
    obtain ⟨a1, a2, a3⟩ := wt_json x _ (by omega) h
    have b5 := wt_jsonO l ns.tail false _ (by omega) t
    simp only [printO, List.length_append, List.length_cons]
    have : (if b = true then ([] : Str) else [44]).length ≤ 1 := by cases b <;> simp
    cases ns with
    | nil =>
      have hq := qtS_len []
      simp only [List.headD_nil, List.tail_nil, sumS, List.length_nil] at b5 hq ⊢
      omega
    | cons u ns =>
      have hq := qtS_len u
      simp only [List.headD_cons, List.tail_cons, sumS] at b5 ⊢
      omega
end
mutual
theorem right_i64 : ∀ (v : Json) (d : Int), rightJ v d = true → i64J v
  | ⟨k, ⟨m, e⟩, t, ns, is⟩, d, h => by
    have hL := right_i64L is
    have z : I64 0 := by unfold I64; omega
    cases rightJ_iff.1 h with
    | name _ _ hd hk => exact ⟨z, z, trivial⟩
    | num _ _ hd hn =>
      have := hn.bounds
      simp only at this
      exact ⟨by show I64 m; unfold I64; omega, by show I64 e; unfold I64; omega, trivial⟩
    | text _ _ hd ht => exact ⟨z, z, trivial⟩
    | arr _ _ hd hi => exact ⟨z, z, hL _ hi⟩
    | obj _ _ _ hd hl hu hi => exact ⟨z, z, hL _ hi⟩
theorem right_i64L : ∀ (l : List Json) (d : Int), rightL l d = true → i64L l
  | [], _, _ => trivial
  | x :: l, d, h => by
    simp only [rightL, Bool.and_eq_true] at h
    exact ⟨right_i64 x d h.1, right_i64L l d h.2⟩
end


def numOk (n : Int) : Bool := decide (0 ≤ n) && decide (n ≤ 1000000000)
theorem numOk_iff {n : Int} : numOk n = true ↔ 0 ≤ n ∧ n ≤ 1000000000 := by unfold numOk; rw [Bool.and_eq_true, decide_eq_true_eq, decide_eq_true_eq]
end Go.Proofs.YtolnaonmpohciaaDoor

set_option maxRecDepth 100000
namespace Go.Proofs.YtolnaonmpohciaaDoor
open Go Go.Yard

end Go.Proofs.YtolnaonmpohciaaDoor

set_option maxRecDepth 100000
namespace Go.Proofs.YtolnaonmpohciaaDoor
open Go Go.Yard Go.Lib

def namL : Str := [97, 98, 99, 100, 101, 102, 103, 104, 105, 106, 107, 108, 109, 110, 111, 112, 113, 114, 115, 116, 117, 118, 119, 120, 121, 122, 65, 66, 67, 68, 69, 70, 71, 72, 73, 74, 75, 76, 77, 78, 79, 80, 81, 82, 83, 84, 85, 86, 87, 88, 89, 90, 48, 49, 50, 51, 52, 53, 54, 55, 56, 57, 95, 46, 58, 45]
def nameOk (s : Str) : Bool := s.all (namL.contains ·) && (!s.isEmpty && decide (s.length ≤ 16))
def stepsO : Stop → List Yard.Way → List Stop → Bool
  | _, [], [] => true
  | f, e :: es, t :: ts => (numOk e.edge && numOk e.seq && numOk t.node && numOk t.seq) && (decide (e.seq = f.seq + 1) && decide (t.seq = e.seq + 1)) && ((e.released == t.released) && (!t.released || f.released)) && stepsO t es ts
  | _, _, _ => false
def rightO (o : Order) : Bool :=
  nameOk o.vehicle && (numOk o.header && numOk o.order && numOk o.update) && (match o.nodes with
    | [] => false
    | f :: ns => decide (ns.length < 64) && (decide (Int.tmod f.seq 2 = 0) && f.released) && (numOk f.node && numOk f.seq) && stepsO f o.edges ns)

def stopOk (x : Stop) : Prop := numOk x.node = true ∧ numOk x.seq = true
def wayOk (x : Yard.Way) : Prop := numOk x.edge = true ∧ numOk x.seq = true
theorem steps_ok : ∀ (f : Stop) (es : List Yard.Way) (ts : List Stop), stepsO f es ts = true → es.length = ts.length ∧ (∀ x ∈ es, wayOk x) ∧ ∀ x ∈ ts, stopOk x
  | _, [], [], _ => ⟨rfl, by simp, by simp⟩
  | f, e :: es, t :: ts, h => by
    simp only [stepsO, Bool.and_eq_true] at h
    obtain ⟨h1, h2, h3⟩ := steps_ok t es ts h.2
    obtain ⟨⟨⟨⟨⟨⟨a1, a2⟩, a3⟩, a4⟩, _⟩, _⟩, _⟩ := h
    refine ⟨by simp [h1], fun x hx => ?_, fun x hx => ?_⟩
    · rcases List.mem_cons.1 hx with rfl | hx
      · exact ⟨a1, a2⟩
      · exact h2 x hx
    · rcases List.mem_cons.1 hx with rfl | hx
      · exact ⟨a3, a4⟩
      · exact h3 x hx
  | _, [], _ :: _, h => by simp [stepsO] at h
  | _, _ :: _, [], h => by simp [stepsO] at h
structure OkO (o : Order) : Prop where
  name : nameOk o.vehicle = true
  header : numOk o.header = true
  order : numOk o.order = true
  update : numOk o.update = true
  nodes : ∀ x ∈ o.nodes, stopOk x
  edges : ∀ x ∈ o.edges, wayOk x
  many : 1 ≤ o.nodes.length ∧ o.nodes.length ≤ 64 ∧ o.edges.length + 1 = o.nodes.length

theorem right_kind {v : Json} {d : Int} (h : rightJ v d = true) : I64 v.kind := by
  cases rightJ_iff.1 h <;> first | (unfold I64; simp only; omega) | (unfold I64; decide)
mutual
theorem right_jok : ∀ (v : Json) (d : Int), rightJ v d = true → lenJ v = true → Pu.JOk v
  | ⟨k, ⟨m, e⟩, t, ns, is⟩, d, h, hl => by
    have hL := right_jokL is
    obtain ⟨l1, l2, l3, l4, l5⟩ := lenJ_iff.1 hl
    have hk := right_kind h
    have hi := right_i64 _ _ h
    have hI : ∀ y ∈ is, Pu.JOk y := by
      cases rightJ_iff.1 h with
      | name _ _ hd hk => simp
      | num _ _ hd hn => simp
      | text _ _ hd ht => simp
      | arr _ _ hd hi => exact hL _ hi l3
      | obj _ _ _ hd hl hu hi => exact hL _ hi l3
    exact Pu.jok_mk hk hi.1 hi.2.1 (by simp only at l4; omega) l1 (fun s hs => by have := l5 s hs; omega) l2 hI
theorem right_jokL : ∀ (l : List Json) (d : Int), rightL l d = true → lenL l = true → ∀ y ∈ l, Pu.JOk y
  | [], _, _, _ => by simp
  | x :: l, d, h, hl => by
    simp only [rightL, lenL, Bool.and_eq_true] at h hl
    intro y hy
    rcases List.mem_cons.1 hy with e | hy
    · rw [e]
      exact right_jok x d h.1 hl.1
    · exact right_jokL l d h.2 hl.2 y hy
end

abbrev YState := Yard.State
def rightA (s : YState) : Bool :=
  nameOk s.vehicle && ((numOk s.header && (numOk s.boot && (numOk s.order && (numOk s.update && (numOk s.node && (numOk s.seq && numOk s.accepted)))))) && (decide (Int.tmod s.seq 2 = 0) && (s.live || !s.driving)))
structure OkA (s : YState) : Prop where
  name : nameOk s.vehicle = true
  header : numOk s.header = true
  boot : numOk s.boot = true
  order : numOk s.order = true
  update : numOk s.update = true
  node : numOk s.node = true
  seq : numOk s.seq = true
  accepted : numOk s.accepted = true
def newerA (a b : YState) : Bool := decide (a.boot > b.boot) || (decide (a.boot = b.boot) && decide (a.header > b.header))


theorem trim_none : ∀ s : Str, trimL s namL = [] ↔ s.all (namL.contains ·) = true
  | [] => by simp [trimL]
  | b :: s => by
    have ih := trim_none s
    unfold trimL at ih ⊢
    rw [List.dropWhile_cons, List.all_cons]
    by_cases h : namL.contains b = true
    · rw [if_pos h, h, Bool.true_and]
      exact ih
    · rw [if_neg h, Bool.eq_false_iff.2 h, Bool.false_and]
      simp
theorem trim_name (s : Str) : ((trimL s namL == ([] : Str)) && (!(s == ([] : Str)) && decide ((s.length : Int) ≤ 16))) = nameOk s := by
  have e1 : (trimL s namL == ([] : Str)) = s.all (namL.contains ·) := by
    rw [Bool.eq_iff_iff, ← trim_none]
    exact beq_iff_eq
  have e2 : (s == ([] : Str)) = s.isEmpty := by cases s <;> rfl
  have e3 : decide ((s.length : Int) ≤ 16) = decide (s.length ≤ 16) := decide_eq_decide.2 (by omega)
  unfold nameOk
  rw [e1, e2, e3]
def nameC (n : Int) : Bool := decide (97 ≤ n ∧ n ≤ 122) || decide (65 ≤ n ∧ n ≤ 90) || decide (48 ≤ n ∧ n ≤ 57) || decide (n = 95) || decide (n = 46) || decide (n = 58) || decide (n = 45)
theorem nameC_ok (b : UInt8) : nameC (b.toNat : Int) = namL.contains b := by
  have all : ∀ n : Fin 256, nameC ((UInt8.ofNat n.val).toNat : Int) = namL.contains (UInt8.ofNat n.val) := by decide +kernel
  have := all ⟨b.toNat, UInt8.toNat_lt b⟩
  simpa only [UInt8.ofNat_toNat] using this

def sumN : List Str → Nat
  | [] => 0
  | n :: l => (qtS n).length + 2 + sumN l
def sumI : List Json → Nat
  | [] => 0
  | x :: l => (printJ x).length + sumI l
structure Fields (ns : List Str) (is : List Json) : Prop where
  len : ns.length = is.length
  uniq : uniqN [] ns = true
  right : ∀ x ∈ is, rightJ x 2 = true
  short : sumN ns + sumI is ≤ 19000
variable {ns : List Str} {is : List Json}

structure StepsO (o : Order) : Prop where
  first : Int.tmod (o.nodes.getD 0 Stop.z).seq 2 = 0 ∧ (o.nodes.getD 0 Stop.z).released = true
  next : ∀ i, i < o.edges.length → (o.nodes.getD (i + 1) Stop.z).seq = (o.edges.getD i Yard.Way.z).seq + 1 ∧ (o.edges.getD i Yard.Way.z).released = (o.nodes.getD (i + 1) Stop.z).released

def nodesR : Int → Bool → List Stop → Bool
  | _, _, [] => true
  | s, p, x :: l => (numOk x.node && numOk x.seq) && (decide (x.seq = s) && (!x.released || p)) && nodesR (s + 2) x.released l
def edgesR : Stop → List Yard.Way → List Stop → Bool
  | _, [], [] => true
  | f, e :: es, t :: ts => (numOk e.edge && numOk e.seq) && (decide (e.seq = f.seq + 1) && (e.released == t.released)) && edgesR t es ts
  | _, _, _ => false
theorem steps_ref : ∀ (f : Stop) (es : List Yard.Way) (ts : List Stop), stepsO f es ts = (nodesR (f.seq + 2) f.released ts && edgesR f es ts)
  | _, [], [] => rfl
  | f, e :: es, t :: ts => by
    have ih := steps_ref t es ts
    simp only [stepsO, nodesR, edgesR, ih]
    by_cases h : t.seq = f.seq + 2
    · have e1 : t.seq + 2 = f.seq + 2 + 2 := by omega
      rw [e1, Bool.eq_iff_iff]
      simp only [Bool.and_eq_true, decide_eq_true_eq, beq_iff_eq]
      constructor
      · rintro ⟨⟨⟨⟨⟨⟨a1, a2⟩, a3⟩, a4⟩, b1, b2⟩, c1, c2⟩, d1, d2⟩
        exact ⟨⟨⟨⟨a3, a4⟩, h, c2⟩, d1⟩, ⟨⟨a1, a2⟩, b1, c1⟩, d2⟩
      · rintro ⟨⟨⟨⟨a3, a4⟩, _, c2⟩, d1⟩, ⟨⟨a1, a2⟩, b1, c1⟩, d2⟩
        exact ⟨⟨⟨⟨⟨⟨a1, a2⟩, a3⟩, a4⟩, b1, by omega⟩, c1, c2⟩, d1, d2⟩
    · rw [Bool.eq_iff_iff]
      simp only [Bool.and_eq_true, decide_eq_true_eq, beq_iff_eq]
      constructor
      · rintro ⟨⟨⟨_, b1, b2⟩, _⟩, _⟩
        omega
      · rintro ⟨⟨⟨_, h2, _⟩, _⟩, _⟩
        exact (h h2).elim
  | _, [], _ :: _ => by simp [stepsO, edgesR]
  | _, _ :: _, [] => by simp [stepsO, edgesR, nodesR]
theorem edgesR_len : ∀ (f : Stop) (es : List Yard.Way) (ts : List Stop), edgesR f es ts = true → es.length = ts.length
  | _, [], [], _ => rfl
  | f, e :: es, t :: ts, h => by
    simp only [edgesR, Bool.and_eq_true] at h
    have := edgesR_len t es ts h.2
    simp [this]
  | _, [], _ :: _, h => by simp [edgesR] at h
  | _, _ :: _, [], h => by simp [edgesR] at h
def rightR (o : Order) : Bool :=
  nameOk o.vehicle && (numOk o.header && (numOk o.order && numOk o.update)) && (match o.nodes with
    | [] => false
    | f :: ns => (decide (ns.length < 64) && decide (o.edges.length = ns.length)) && (decide (Int.tmod f.seq 2 = 0) && f.released) && nodesR f.seq true (f :: ns) && edgesR f o.edges ns)
theorem rightR_eq (o : Order) : rightR o = rightO o := by
  obtain ⟨hd, ve, od, up, ns, es⟩ := o
  cases ns with
  | nil => simp [rightO, rightR]
  | cons f ns =>
    simp only [rightO, rightR, nodesR, steps_ref]
    rw [Bool.eq_iff_iff]
    simp only [Bool.and_eq_true, decide_eq_true_eq, Bool.or_true]
    constructor
    · rintro ⟨⟨a1, a2, a3, a4⟩, ⟨⟨⟨b1, b2⟩, b3, b4⟩, ⟨⟨c1, c2⟩, _⟩, d1⟩, d2⟩
      exact ⟨⟨a1, ⟨a2, a3⟩, a4⟩, ⟨⟨b1, b3, b4⟩, c1, c2⟩, d1, d2⟩
    · rintro ⟨⟨a1, ⟨a2, a3⟩, a4⟩, ⟨⟨b1, b3, b4⟩, c1, c2⟩, d1, d2⟩
      exact ⟨⟨a1, a2, a3, a4⟩, ⟨⟨⟨b1, edgesR_len _ _ _ d2⟩, b3, b4⟩, ⟨⟨c1, c2⟩, trivial, trivial⟩, d1⟩, d2⟩
end Go.Proofs.YtolnaonmpohciaaDoor

/-
  Functions of the program as pure Lean functions, and the ties; printed by wip/tools/emit.py.
-/
set_option maxRecDepth 100000
namespace Go.Proofs.YtolnaonmpohciaaDoor
open Go Go.Yard
variable {R : Type}

/-! ### slices.Index[[]int,int] -/
abbrev slices_Index_intint_ty (R : Type) : Type := (List Int) → Int → (Int → Option R) → Option R
abbrev slices_Index_intint_p : List Pat := [.leaf (.sl (.int .i64)), .leaf (.int .i64)]
abbrev slices_Index_intint_q : List HPat := []
noncomputable def slices_Index_intint_rr (fn : slices_Index_intint_ty R) : Run R slices_Index_intint_p slices_Index_intint_q := fun x y k => fn x.1 x.2.1 (fun q0 => k (.int .i64 q0) [])
noncomputable def slices_Index_intint_s (fn : slices_Index_intint_ty R) := specBy slices_Index_intint_p slices_Index_intint_q (slices_Index_intint_rr fn)
abbrev slices_Index_intint_2_0_ty (R : Type) : Type := Nat → (List Int) → Int → Int → Int → (Option R) → (Int → Option R) → Option R
noncomputable def slices_Index_intint_2_0_h : Hint := { live := [0, 1, 7, 8], own := [], rows := [], cells := [], drop := [], out := [4] }
abbrev slices_Index_intint_2_0_D : Type := (List Int) × Int × Int × Int
noncomputable def slices_Index_intint_2_0_enc : slices_Index_intint_2_0_D → St := fun d => ⟨.sl (.int .i64) d.1 .no :: .int .i64 d.2.1 :: U 5 (.int .i64 d.2.2.1 :: .int .i64 d.2.2.2 :: U 10 ([])), []⟩
noncomputable def slices_Index_intint_2_0_x0 (K : Ex → St → Option R) : Option R := K (.exit 0) ⟨U 19 ([]), []⟩
noncomputable def slices_Index_intint_2_0_x1 (K : Ex → St → Option R) (q0 : Int) : Option R := K (.ret) ⟨U 4 (.int .i64 q0 :: U 14 ([])), []⟩
abbrev slices_Index_intint_2_0_p : List Pat := .leaf (.sl (.int .i64)) :: .leaf (.int .i64) :: PU 5 (.leaf (.int .i64) :: .leaf (.int .i64) :: PU 10 ([]))
abbrev slices_Index_intint_2_0_q : List HPat := []
noncomputable def slices_Index_intint_2_0_f (x : Pat.dens slices_Index_intint_2_0_p) (y : HPat.dens slices_Index_intint_2_0_q) : Nat := (List.length x.1 + Int.natAbs x.2.1 + Int.natAbs x.2.2.2.2.2.2.2.1 + Int.natAbs ((t8 x).1) + 64)
noncomputable def slices_Index_intint_2_0_d (x : Pat.dens slices_Index_intint_2_0_p) (y : HPat.dens slices_Index_intint_2_0_q) : slices_Index_intint_2_0_D := (x.1, x.2.1, x.2.2.2.2.2.2.2.1, (t8 x).1)
noncomputable def slices_Index_intint_2_0_rr (L : slices_Index_intint_2_0_ty R) : LRun R slices_Index_intint_2_0_p slices_Index_intint_2_0_q := fun x y K => L (slices_Index_intint_2_0_f x y) x.1 x.2.1 x.2.2.2.2.2.2.2.1 ((t8 x).1) (slices_Index_intint_2_0_x0 K) (slices_Index_intint_2_0_x1 K)
section
variable (slices_Index_intint_2_0_L : slices_Index_intint_2_0_ty R)
noncomputable def slices_Index_intint_2_0_B (rec' : (List Int) → Int → Int → Int → Option R) (x3 : List Int) (x4 : Int) (x5 : Int) (x6 : Int) (e0 : Option R) (e1 : Int → Option R) : Option R :=
  bif (decide (x6 < x5)) then (chk (decide ((0 : Int) ≤ x6) && decide (x6 < x3.length)) (bif (x4 == (x3.getD x6.toNat (Ty.dflt (.int .i64)))) then (e1 x6) else (rec' x3 x4 x5 (IntKind.i64.wrap (x6 + 1))))) else (e0)
noncomputable def slices_Index_intint_2_0_s (K : Ex → St → Option R) (rc : slices_Index_intint_2_0_D → Option R) (d : slices_Index_intint_2_0_D) : Option R := slices_Index_intint_2_0_B (fun z0 z1 z2 z3 => rc (z0, z1, z2, z3)) d.1 d.2.1 d.2.2.1 d.2.2.2 (slices_Index_intint_2_0_x0 K) (slices_Index_intint_2_0_x1 K)
noncomputable def slices_Index_intint_T : Nat → Option (Hint × LSpec R) := fun i => match i with
  | 2 => some (slices_Index_intint_2_0_h, (loopBy slices_Index_intint_2_0_p slices_Index_intint_2_0_q (slices_Index_intint_2_0_rr slices_Index_intint_2_0_L) loopNo))
  | _ => none
theorem slices_Index_intint_2_0_B_ok (K : Ex → St → Option R) (rc : St → Option R) (d : slices_Index_intint_2_0_D) : roundOf tt (envL []) (slices_Index_intint_T slices_Index_intint_2_0_L) 0 ((loopsOf (codeOf Tryd.f66)).getD 0 .skip) slices_Index_intint_2_0_h (slices_Index_intint_2_0_enc d) rc K = slices_Index_intint_2_0_s K (fun d => rc (slices_Index_intint_2_0_enc d)) d := by kernel_rfl
noncomputable def slices_Index_intint_X (x1 : List Int) (x2 : Int) (k0 : Int → Option R) : Option R :=
  slices_Index_intint_2_0_L (List.length x1 + Int.natAbs x2 + Int.natAbs (x1.length : Int) + Int.natAbs 0 + 64) x1 x2 (x1.length : Int) 0 (k0 (-1)) (fun y7 => k0 y7)
theorem slices_Index_intint_ok : Tied (R := R) tt [] (slices_Index_intint_T slices_Index_intint_2_0_L) false Tryd.f66 slices_Index_intint_p slices_Index_intint_q (slices_Index_intint_rr (slices_Index_intint_X slices_Index_intint_2_0_L)) := fun x y k => by kernel_rfl
end
noncomputable def slices_Index_intint_2_0_L : slices_Index_intint_2_0_ty R
  | 0, _, _, _, _, _, _ => none
  | n + 1, x0', x1', x2', x3', e0, e1 => slices_Index_intint_2_0_B (fun x0' x1' x2' x3' => slices_Index_intint_2_0_L n x0' x1' x2' x3' e0 e1) x0' x1' x2' x3' e0 e1
noncomputable def slices_Index_intint_2_0_A (K : Ex → St → Option R) (n : Nat) (d : slices_Index_intint_2_0_D) : Option R := slices_Index_intint_2_0_L n d.1 d.2.1 d.2.2.1 d.2.2.2 (slices_Index_intint_2_0_x0 K) (slices_Index_intint_2_0_x1 K)
theorem slices_Index_intint_2_0_ok (other : LSpec R) (ho : LsOk tt (envL []) (slices_Index_intint_T (R := R) slices_Index_intint_2_0_L) 0 ((loopsOf (codeOf Tryd.f66)).getD 0 .skip) slices_Index_intint_2_0_h other) : LsOk tt (envL []) (slices_Index_intint_T (R := R) slices_Index_intint_2_0_L) 0 ((loopsOf (codeOf Tryd.f66)).getD 0 .skip) slices_Index_intint_2_0_h (loopBy slices_Index_intint_2_0_p slices_Index_intint_2_0_q (slices_Index_intint_2_0_rr (slices_Index_intint_2_0_L)) other) :=
  loopBy_tie (A := slices_Index_intint_2_0_A) ho (loop_tie slices_Index_intint_2_0_enc (slices_Index_intint_2_0_s) (slices_Index_intint_2_0_A) (fun _ _ => by kernel_rfl) (slices_Index_intint_2_0_B_ok slices_Index_intint_2_0_L) (fun _ _ _ => by kernel_rfl)) slices_Index_intint_2_0_f slices_Index_intint_2_0_d (fun _ _ => by kernel_rfl) (fun _ _ _ => by kernel_rfl)
noncomputable def slices_Index_intint : slices_Index_intint_ty R := fun x1 x2 k0 => slices_Index_intint_X slices_Index_intint_2_0_L x1 x2 k0
theorem slices_Index_intint_loops (R : Type) : ∀ a ∈ loopsOf (codeOf Tryd.f66), LoopOk tt (envL []) (slices_Index_intint_T (R := R) slices_Index_intint_2_0_L) 0 a := by
  refine loops_ok 1 (by kernel_rfl) fun i hi => ?_
  match i, hi with
  | 0, _ => exact loopOk_some (by kernel_rfl) (slices_Index_intint_2_0_ok _ loopNo_ok)
  | n + 1, hi => omega
theorem slices_Index_intint_S_ok (R : Type) : OkS Tryd.prog 66 (slices_Index_intint_s (slices_Index_intint (R := R))) := tie_ok TT mixed .n rfl rfl rfl rfl (slices_Index_intint_loops R) (slices_Index_intint_ok slices_Index_intint_2_0_L)

/-! ### slices.Contains[[]int,int] -/
abbrev slices_Contains_intint_ty (R : Type) : Type := (List Int) → Int → (Bool → Option R) → Option R
abbrev slices_Contains_intint_p : List Pat := [.leaf (.sl (.int .i64)), .leaf (.int .i64)]
abbrev slices_Contains_intint_q : List HPat := []
noncomputable def slices_Contains_intint_rr (fn : slices_Contains_intint_ty R) : Run R slices_Contains_intint_p slices_Contains_intint_q := fun x y k => fn x.1 x.2.1 (fun q0 => k (.bool q0) [])
noncomputable def slices_Contains_intint_s (fn : slices_Contains_intint_ty R) := specBy slices_Contains_intint_p slices_Contains_intint_q (slices_Contains_intint_rr fn)
section
variable (slices_Index_intint : slices_Index_intint_ty R)
noncomputable def slices_Contains_intint_E : List (Ent R) := [(66, true, (slices_Index_intint_s slices_Index_intint specNo))]
noncomputable def slices_Contains_intint_X (x1 : List Int) (x2 : Int) (k0 : Bool → Option R) : Option R :=
  slices_Index_intint x1 x2 (fun y3 => k0 (decide (y3 ≥ (0 : Int))))
theorem slices_Contains_intint_ok : Tied (R := R) tt (slices_Contains_intint_E slices_Index_intint) noT false Tryd.f59 slices_Contains_intint_p slices_Contains_intint_q (slices_Contains_intint_rr (slices_Contains_intint_X slices_Index_intint)) := fun x y k => by kernel_rfl
end
theorem slices_Contains_intint_EOk : EntOk (R := R) Tryd.prog (slices_Contains_intint_E (R := R) slices_Index_intint) := .c (slices_Index_intint_S_ok R) <| .n
noncomputable def slices_Contains_intint : slices_Contains_intint_ty R := fun x1 x2 k0 => slices_Contains_intint_X slices_Index_intint x1 x2 k0
theorem slices_Contains_intint_S_ok (R : Type) : OkS Tryd.prog 59 (slices_Contains_intint_s (slices_Contains_intint (R := R))) := tie_ok TT mixed (slices_Contains_intint_EOk (R := R)) rfl rfl rfl rfl noT_ok (slices_Contains_intint_ok slices_Index_intint)

/-! ### (*humpyard/fleet.ctl).goes -/
abbrev fleet_ctl_goes_a984_ty (R : Type) : Type := Int → Str → Int → Int → Int → Int → Int → (List Int) → Int → Bool → Int → Bool → Int → Str → Int → Int → ((List Int) → Str → Int → Int → Int → Int → Int → (List Int) → Int → Bool → Int → Bool → Int → Str → Int → Int → Option R) → Option R
abbrev fleet_ctl_goes_a984_p : List Pat := [.leaf (.ptr 0 0), .leaf (.int .i64)]
abbrev fleet_ctl_goes_a984_q : List HPat := [.cells [.str, .int .i64, .int .i64, .int .i64, .int .i64, .int .i64, .sl (.int .i64), .int .i64, .bool, .int .i64, .bool, .int .i64, .str, .int .i64, .int .i64, .nilsl, .nilsl]]
noncomputable def fleet_ctl_goes_a984_rr (fn : fleet_ctl_goes_a984_ty R) : Run R fleet_ctl_goes_a984_p fleet_ctl_goes_a984_q := fun x y k => fn x.2.1 y.1.1 y.1.2.1 y.1.2.2.1 y.1.2.2.2.1 y.1.2.2.2.2.1 y.1.2.2.2.2.2.1 y.1.2.2.2.2.2.2.1 y.1.2.2.2.2.2.2.2.1 ((t8 y.1).1) ((t8 y.1).2.1) ((t8 y.1).2.2.1) ((t8 y.1).2.2.2.1) ((t8 y.1).2.2.2.2.1) ((t8 y.1).2.2.2.2.2.1) ((t8 y.1).2.2.2.2.2.2.1) (fun q0 q1 q2 q3 q4 q5 q6 q7 q8 q9 q10 q11 q12 q13 q14 q15 => k (.sl (.int .i64) q0 .no) [.cells [.str q1, .int .i64 q2, .int .i64 q3, .int .i64 q4, .int .i64 q5, .int .i64 q6, .sl (.int .i64) q7 .no, .int .i64 q8, .bool q9, .int .i64 q10, .bool q11, .int .i64 q12, .str q13, .int .i64 q14, .int .i64 q15, .nilsl, .nilsl]])
noncomputable def fleet_ctl_goes_a984_s (fn : fleet_ctl_goes_a984_ty R) := specBy fleet_ctl_goes_a984_p fleet_ctl_goes_a984_q (fleet_ctl_goes_a984_rr fn)
abbrev fleet_ctl_goes_a984_4_0_ty (R : Type) : Type := Nat → Int → (List Int) → (List Int) → Int → Int → Str → Int → Int → Int → Int → Int → (List Int) → Int → Bool → Int → Bool → Int → Str → Int → Int → (Int → (List Int) → Str → Int → Int → Int → Int → Int → (List Int) → Int → Bool → Int → Bool → Int → Str → Int → Int → Option R) → Option R
noncomputable def fleet_ctl_goes_a984_4_0_h : Hint := { live := [0, 1, 4, 26, 27, 28], own := [(4, (.int .i64))], rows := [], cells := [], drop := [], out := [0, 1, 4] }
abbrev fleet_ctl_goes_a984_4_0_D : Type := Int × (List Int) × (List Int) × Int × Int × Str × Int × Int × Int × Int × Int × (List Int) × Int × Bool × Int × Bool × Int × Str × Int × Int
noncomputable def fleet_ctl_goes_a984_4_0_enc : fleet_ctl_goes_a984_4_0_D → St := fun d => ⟨.ptr 0 0 :: .int .i64 d.1 :: U 2 (.sl (.int .i64) d.2.1 (.own 1) :: U 21 (.sl (.int .i64) d.2.2.1 .no :: .int .i64 d.2.2.2.1 :: .int .i64 d.2.2.2.2.1 :: U 45 ([]))), [.cells [.str d.2.2.2.2.2.1, .int .i64 d.2.2.2.2.2.2.1, .int .i64 d.2.2.2.2.2.2.2.1, .int .i64 d.2.2.2.2.2.2.2.2.1, .int .i64 d.2.2.2.2.2.2.2.2.2.1, .int .i64 d.2.2.2.2.2.2.2.2.2.2.1, .sl (.int .i64) d.2.2.2.2.2.2.2.2.2.2.2.1 .no, .int .i64 d.2.2.2.2.2.2.2.2.2.2.2.2.1, .bool d.2.2.2.2.2.2.2.2.2.2.2.2.2.1, .int .i64 d.2.2.2.2.2.2.2.2.2.2.2.2.2.2.1, .bool d.2.2.2.2.2.2.2.2.2.2.2.2.2.2.2.1, .int .i64 d.2.2.2.2.2.2.2.2.2.2.2.2.2.2.2.2.1, .str d.2.2.2.2.2.2.2.2.2.2.2.2.2.2.2.2.2.1, .int .i64 d.2.2.2.2.2.2.2.2.2.2.2.2.2.2.2.2.2.2.1, .int .i64 d.2.2.2.2.2.2.2.2.2.2.2.2.2.2.2.2.2.2.2, .nilsl, .nilsl], .tok]⟩
noncomputable def fleet_ctl_goes_a984_4_0_x0 (K : Ex → St → Option R) (q0 : Int) (q1 : List Int) (q2 : Str) (q3 : Int) (q4 : Int) (q5 : Int) (q6 : Int) (q7 : Int) (q8 : List Int) (q9 : Int) (q10 : Bool) (q11 : Int) (q12 : Bool) (q13 : Int) (q14 : Str) (q15 : Int) (q16 : Int) : Option R := K (.exit 0) ⟨.ptr 0 0 :: .int .i64 q0 :: U 2 (.sl (.int .i64) q1 (.own 1) :: U 69 ([])), [.cells [.str q2, .int .i64 q3, .int .i64 q4, .int .i64 q5, .int .i64 q6, .int .i64 q7, .sl (.int .i64) q8 .no, .int .i64 q9, .bool q10, .int .i64 q11, .bool q12, .int .i64 q13, .str q14, .int .i64 q15, .int .i64 q16, .nilsl, .nilsl], .tok]⟩
abbrev fleet_ctl_goes_a984_4_0_p : List Pat := .leaf (.ptr 0 0) :: .leaf (.int .i64) :: PU 2 (.leaf (.slo (.int .i64) 1) :: PU 21 (.leaf (.sl (.int .i64)) :: .leaf (.int .i64) :: .leaf (.int .i64) :: PU 45 ([])))
abbrev fleet_ctl_goes_a984_4_0_q : List HPat := [.cells [.str, .int .i64, .int .i64, .int .i64, .int .i64, .int .i64, .sl (.int .i64), .int .i64, .bool, .int .i64, .bool, .int .i64, .str, .int .i64, .int .i64, .nilsl, .nilsl], .tok]
noncomputable def fleet_ctl_goes_a984_4_0_f (x : Pat.dens fleet_ctl_goes_a984_4_0_p) (y : HPat.dens fleet_ctl_goes_a984_4_0_q) : Nat := (Int.natAbs x.2.1 + List.length x.2.2.2.2.1 + List.length ((t8 (t8 (t8 x))).2.2.1) + Int.natAbs ((t8 (t8 (t8 x))).2.2.2.1) + Int.natAbs ((t8 (t8 (t8 x))).2.2.2.2.1) + List.length y.1.1 + Int.natAbs y.1.2.1 + Int.natAbs y.1.2.2.1 + Int.natAbs y.1.2.2.2.1 + Int.natAbs y.1.2.2.2.2.1 + Int.natAbs y.1.2.2.2.2.2.1 + List.length y.1.2.2.2.2.2.2.1 + Int.natAbs y.1.2.2.2.2.2.2.2.1 + Int.natAbs ((t8 y.1).2.1) + Int.natAbs ((t8 y.1).2.2.2.1) + List.length ((t8 y.1).2.2.2.2.1) + Int.natAbs ((t8 y.1).2.2.2.2.2.1) + Int.natAbs ((t8 y.1).2.2.2.2.2.2.1) + 64)
noncomputable def fleet_ctl_goes_a984_4_0_d (x : Pat.dens fleet_ctl_goes_a984_4_0_p) (y : HPat.dens fleet_ctl_goes_a984_4_0_q) : fleet_ctl_goes_a984_4_0_D := (x.2.1, x.2.2.2.2.1, (t8 (t8 (t8 x))).2.2.1, (t8 (t8 (t8 x))).2.2.2.1, (t8 (t8 (t8 x))).2.2.2.2.1, y.1.1, y.1.2.1, y.1.2.2.1, y.1.2.2.2.1, y.1.2.2.2.2.1, y.1.2.2.2.2.2.1, y.1.2.2.2.2.2.2.1, y.1.2.2.2.2.2.2.2.1, (t8 y.1).1, (t8 y.1).2.1, (t8 y.1).2.2.1, (t8 y.1).2.2.2.1, (t8 y.1).2.2.2.2.1, (t8 y.1).2.2.2.2.2.1, (t8 y.1).2.2.2.2.2.2.1)
noncomputable def fleet_ctl_goes_a984_4_0_rr (L : fleet_ctl_goes_a984_4_0_ty R) : LRun R fleet_ctl_goes_a984_4_0_p fleet_ctl_goes_a984_4_0_q := fun x y K => L (fleet_ctl_goes_a984_4_0_f x y) x.2.1 x.2.2.2.2.1 ((t8 (t8 (t8 x))).2.2.1) ((t8 (t8 (t8 x))).2.2.2.1) ((t8 (t8 (t8 x))).2.2.2.2.1) y.1.1 y.1.2.1 y.1.2.2.1 y.1.2.2.2.1 y.1.2.2.2.2.1 y.1.2.2.2.2.2.1 y.1.2.2.2.2.2.2.1 y.1.2.2.2.2.2.2.2.1 ((t8 y.1).1) ((t8 y.1).2.1) ((t8 y.1).2.2.1) ((t8 y.1).2.2.2.1) ((t8 y.1).2.2.2.2.1) ((t8 y.1).2.2.2.2.2.1) ((t8 y.1).2.2.2.2.2.2.1) (fleet_ctl_goes_a984_4_0_x0 K)
section
variable (slices_Contains_intint : slices_Contains_intint_ty R) (fleet_ctl_goes_a984_4_0_L : fleet_ctl_goes_a984_4_0_ty R)
noncomputable def fleet_ctl_goes_a984_E : List (Ent R) := [(59, true, (slices_Contains_intint_s slices_Contains_intint specNo))]
noncomputable def fleet_ctl_goes_a984_4_0_B (rec' : Int → (List Int) → (List Int) → Int → Int → Str → Int → Int → Int → Int → Int → (List Int) → Int → Bool → Int → Bool → Int → Str → Int → Int → Option R) (x17 : Int) (x18 : List Int) (x19 : List Int) (x20 : Int) (x21 : Int) (x22 : Str) (x23 : Int) (x24 : Int) (x25 : Int) (x26 : Int) (x27 : Int) (x28 : List Int) (x29 : Int) (x30 : Bool) (x31 : Int) (x32 : Bool) (x33 : Int) (x34 : Str) (x35 : Int) (x36 : Int) (e0 : Int → (List Int) → Str → Int → Int → Int → Int → Int → (List Int) → Int → Bool → Int → Bool → Int → Str → Int → Int → Option R) : Option R :=
  bif (decide (x21 < x20)) then (chk (decide ((0 : Int) ≤ x21) && decide (x21 < x19.length)) (slices_Contains_intint x28 (x19.getD x21.toNat (Ty.dflt (.int .i64))) (fun y37 => bif (!y37) then (slices_Contains_intint x18 (x19.getD x21.toNat (Ty.dflt (.int .i64))) (fun y38 => bif (!y38) then (chk (decide ((x18.length + 1) * 8 ≤ 140737488355328)) (rec' x17 ((x18 : List Int) ++ (([(x19.getD x21.toNat (Ty.dflt (.int .i64)))] : List Int) : List Int)) x19 x20 (IntKind.i64.wrap (x21 + 1)) x22 x23 x24 x25 x26 x27 x28 x29 x30 x31 x32 x33 x34 x35 x36)) else (rec' x17 x18 x19 x20 (IntKind.i64.wrap (x21 + 1)) x22 x23 x24 x25 x26 x27 x28 x29 x30 x31 x32 x33 x34 x35 x36))) else (rec' x17 x18 x19 x20 (IntKind.i64.wrap (x21 + 1)) x22 x23 x24 x25 x26 x27 x28 x29 x30 x31 x32 x33 x34 x35 x36)))) else (e0 x17 x18 x22 x23 x24 x25 x26 x27 x28 x29 x30 x31 x32 x33 x34 x35 x36)
noncomputable def fleet_ctl_goes_a984_4_0_s (K : Ex → St → Option R) (rc : fleet_ctl_goes_a984_4_0_D → Option R) (d : fleet_ctl_goes_a984_4_0_D) : Option R := fleet_ctl_goes_a984_4_0_B slices_Contains_intint (fun z0 z1 z2 z3 z4 z5 z6 z7 z8 z9 z10 z11 z12 z13 z14 z15 z16 z17 z18 z19 => rc (z0, z1, z2, z3, z4, z5, z6, z7, z8, z9, z10, z11, z12, z13, z14, z15, z16, z17, z18, z19)) d.1 d.2.1 d.2.2.1 d.2.2.2.1 d.2.2.2.2.1 d.2.2.2.2.2.1 d.2.2.2.2.2.2.1 d.2.2.2.2.2.2.2.1 d.2.2.2.2.2.2.2.2.1 d.2.2.2.2.2.2.2.2.2.1 d.2.2.2.2.2.2.2.2.2.2.1 d.2.2.2.2.2.2.2.2.2.2.2.1 d.2.2.2.2.2.2.2.2.2.2.2.2.1 d.2.2.2.2.2.2.2.2.2.2.2.2.2.1 d.2.2.2.2.2.2.2.2.2.2.2.2.2.2.1 d.2.2.2.2.2.2.2.2.2.2.2.2.2.2.2.1 d.2.2.2.2.2.2.2.2.2.2.2.2.2.2.2.2.1 d.2.2.2.2.2.2.2.2.2.2.2.2.2.2.2.2.2.1 d.2.2.2.2.2.2.2.2.2.2.2.2.2.2.2.2.2.2.1 d.2.2.2.2.2.2.2.2.2.2.2.2.2.2.2.2.2.2.2 (fleet_ctl_goes_a984_4_0_x0 K)
noncomputable def fleet_ctl_goes_a984_T : Nat → Option (Hint × LSpec R) := fun i => match i with
  | 4 => some (fleet_ctl_goes_a984_4_0_h, (loopBy fleet_ctl_goes_a984_4_0_p fleet_ctl_goes_a984_4_0_q (fleet_ctl_goes_a984_4_0_rr fleet_ctl_goes_a984_4_0_L) loopNo))
  | _ => none
theorem fleet_ctl_goes_a984_4_0_B_ok (K : Ex → St → Option R) (rc : St → Option R) (d : fleet_ctl_goes_a984_4_0_D) : roundOf tt (envL (fleet_ctl_goes_a984_E slices_Contains_intint)) (fleet_ctl_goes_a984_T fleet_ctl_goes_a984_4_0_L) 1 ((loopsOf (codeOf Tryd.f42)).getD 0 .skip) fleet_ctl_goes_a984_4_0_h (fleet_ctl_goes_a984_4_0_enc d) rc K = fleet_ctl_goes_a984_4_0_s slices_Contains_intint K (fun d => rc (fleet_ctl_goes_a984_4_0_enc d)) d := by kernel_rfl
noncomputable def fleet_ctl_goes_a984_X (x1 : Int) (x2 : Str) (x3 : Int) (x4 : Int) (x5 : Int) (x6 : Int) (x7 : Int) (x8 : List Int) (x9 : Int) (x10 : Bool) (x11 : Int) (x12 : Bool) (x13 : Int) (x14 : Str) (x15 : Int) (x16 : Int) (k0 : (List Int) → Str → Int → Int → Int → Int → Int → (List Int) → Int → Bool → Int → Bool → Int → Str → Int → Int → Option R) : Option R :=
  chk (decide ((0 : Int) ≤ x1) && decide (x1 ≤ x8.length)) (chk (decide ((0 : Int) ≤ x1)) (chk (decide ((0 : Int) ≤ x1) && decide (x1 ≤ x8.length)) (fleet_ctl_goes_a984_4_0_L (Int.natAbs x1 + List.length ([] : List Int) + List.length ((x8.drop 0).take (x1.toNat - 0)) + Int.natAbs (((x8.drop 0).take (x1.toNat - 0)).length : Int) + Int.natAbs 0 + List.length x2 + Int.natAbs x3 + Int.natAbs x4 + Int.natAbs x5 + Int.natAbs x6 + Int.natAbs x7 + List.length (x8.drop x1.toNat) + Int.natAbs x9 + Int.natAbs x11 + Int.natAbs x13 + List.length x14 + Int.natAbs x15 + Int.natAbs x16 + 64) x1 ([] : List Int) ((x8.drop 0).take (x1.toNat - 0)) (((x8.drop 0).take (x1.toNat - 0)).length : Int) 0 x2 x3 x4 x5 x6 x7 (x8.drop x1.toNat) x9 x10 x11 x12 x13 x14 x15 x16 (fun y40 y41 y42 y43 y44 y45 y46 y47 y48 y49 y50 y51 y52 y53 y54 y55 y56 => k0 y41 y42 y43 y44 y45 y46 y47 y48 (IntKind.i64.wrap (y49 + y40)) y50 (max (IntKind.i64.wrap (y51 - (IntKind.i64.wrap (Int.tdiv y40 2)))) 0) y52 y53 y54 y55 y56))))
theorem fleet_ctl_goes_a984_ok : Tied (R := R) tt (fleet_ctl_goes_a984_E slices_Contains_intint) (fleet_ctl_goes_a984_T fleet_ctl_goes_a984_4_0_L) false Tryd.f42 fleet_ctl_goes_a984_p fleet_ctl_goes_a984_q (fleet_ctl_goes_a984_rr (fleet_ctl_goes_a984_X fleet_ctl_goes_a984_4_0_L)) := fun x y k => by kernel_rfl
end
theorem fleet_ctl_goes_a984_EOk : EntOk (R := R) Tryd.prog (fleet_ctl_goes_a984_E (R := R) slices_Contains_intint) := .c (slices_Contains_intint_S_ok R) <| .n
noncomputable def fleet_ctl_goes_a984_4_0_L : fleet_ctl_goes_a984_4_0_ty R
  | 0, _, _, _, _, _, _, _, _, _, _, _, _, _, _, _, _, _, _, _, _, _ => none
  | n + 1, x0', x1', x2', x3', x4', x5', x6', x7', x8', x9', x10', x11', x12', x13', x14', x15', x16', x17', x18', x19', e0 => fleet_ctl_goes_a984_4_0_B slices_Contains_intint (fun x0' x1' x2' x3' x4' x5' x6' x7' x8' x9' x10' x11' x12' x13' x14' x15' x16' x17' x18' x19' => fleet_ctl_goes_a984_4_0_L n x0' x1' x2' x3' x4' x5' x6' x7' x8' x9' x10' x11' x12' x13' x14' x15' x16' x17' x18' x19' e0) x0' x1' x2' x3' x4' x5' x6' x7' x8' x9' x10' x11' x12' x13' x14' x15' x16' x17' x18' x19' e0
noncomputable def fleet_ctl_goes_a984_4_0_A (K : Ex → St → Option R) (n : Nat) (d : fleet_ctl_goes_a984_4_0_D) : Option R := fleet_ctl_goes_a984_4_0_L n d.1 d.2.1 d.2.2.1 d.2.2.2.1 d.2.2.2.2.1 d.2.2.2.2.2.1 d.2.2.2.2.2.2.1 d.2.2.2.2.2.2.2.1 d.2.2.2.2.2.2.2.2.1 d.2.2.2.2.2.2.2.2.2.1 d.2.2.2.2.2.2.2.2.2.2.1 d.2.2.2.2.2.2.2.2.2.2.2.1 d.2.2.2.2.2.2.2.2.2.2.2.2.1 d.2.2.2.2.2.2.2.2.2.2.2.2.2.1 d.2.2.2.2.2.2.2.2.2.2.2.2.2.2.1 d.2.2.2.2.2.2.2.2.2.2.2.2.2.2.2.1 d.2.2.2.2.2.2.2.2.2.2.2.2.2.2.2.2.1 d.2.2.2.2.2.2.2.2.2.2.2.2.2.2.2.2.2.1 d.2.2.2.2.2.2.2.2.2.2.2.2.2.2.2.2.2.2.1 d.2.2.2.2.2.2.2.2.2.2.2.2.2.2.2.2.2.2.2 (fleet_ctl_goes_a984_4_0_x0 K)
theorem fleet_ctl_goes_a984_4_0_ok (other : LSpec R) (ho : LsOk tt (envL (fleet_ctl_goes_a984_E (R := R) slices_Contains_intint)) (fleet_ctl_goes_a984_T (R := R) fleet_ctl_goes_a984_4_0_L) 1 ((loopsOf (codeOf Tryd.f42)).getD 0 .skip) fleet_ctl_goes_a984_4_0_h other) : LsOk tt (envL (fleet_ctl_goes_a984_E (R := R) slices_Contains_intint)) (fleet_ctl_goes_a984_T (R := R) fleet_ctl_goes_a984_4_0_L) 1 ((loopsOf (codeOf Tryd.f42)).getD 0 .skip) fleet_ctl_goes_a984_4_0_h (loopBy fleet_ctl_goes_a984_4_0_p fleet_ctl_goes_a984_4_0_q (fleet_ctl_goes_a984_4_0_rr (fleet_ctl_goes_a984_4_0_L)) other) :=
  loopBy_tie (A := fleet_ctl_goes_a984_4_0_A) ho (loop_tie fleet_ctl_goes_a984_4_0_enc (fleet_ctl_goes_a984_4_0_s slices_Contains_intint) (fleet_ctl_goes_a984_4_0_A) (fun _ _ => by kernel_rfl) (fleet_ctl_goes_a984_4_0_B_ok slices_Contains_intint fleet_ctl_goes_a984_4_0_L) (fun _ _ _ => by kernel_rfl)) fleet_ctl_goes_a984_4_0_f fleet_ctl_goes_a984_4_0_d (fun _ _ => by kernel_rfl) (fun _ _ _ => by kernel_rfl)
noncomputable def fleet_ctl_goes_a984 : fleet_ctl_goes_a984_ty R := fun x1 x2 x3 x4 x5 x6 x7 x8 x9 x10 x11 x12 x13 x14 x15 x16 k0 => fleet_ctl_goes_a984_X fleet_ctl_goes_a984_4_0_L x1 x2 x3 x4 x5 x6 x7 x8 x9 x10 x11 x12 x13 x14 x15 x16 k0
theorem fleet_ctl_goes_a984_loops (R : Type) : ∀ a ∈ loopsOf (codeOf Tryd.f42), LoopOk tt (envL (fleet_ctl_goes_a984_E (R := R) slices_Contains_intint)) (fleet_ctl_goes_a984_T (R := R) fleet_ctl_goes_a984_4_0_L) 1 a := by
  refine loops_ok 1 (by kernel_rfl) fun i hi => ?_
  match i, hi with
  | 0, _ => exact loopOk_some (by kernel_rfl) (fleet_ctl_goes_a984_4_0_ok _ loopNo_ok)
  | n + 1, hi => omega
theorem fleet_ctl_goes_a984_S_ok (R : Type) : OkS Tryd.prog 42 (fleet_ctl_goes_a984_s (fleet_ctl_goes_a984 (R := R))) := tie_ok TT mixed (fleet_ctl_goes_a984_EOk (R := R)) rfl rfl rfl rfl (fleet_ctl_goes_a984_loops R) (fleet_ctl_goes_a984_ok slices_Contains_intint fleet_ctl_goes_a984_4_0_L)

/-! ### (*humpyard/fleet.ctl).done -/
abbrev fleet_ctl_done_b801_ty (R : Type) : Type := Str → Int → Int → Int → Int → Int → (List Int) → Int → Bool → Int → Bool → Int → Str → Int → Int → (Str → Int → Int → Int → Int → Int → (List Int) → Int → Bool → Int → Bool → Int → Str → Int → Int → Option R) → Option R
abbrev fleet_ctl_done_b801_p : List Pat := [.leaf (.ptr 0 0)]
abbrev fleet_ctl_done_b801_q : List HPat := [.cells [.str, .int .i64, .int .i64, .int .i64, .int .i64, .int .i64, .sl (.int .i64), .int .i64, .bool, .int .i64, .bool, .int .i64, .str, .int .i64, .int .i64, .nilsl, .nilsl]]
noncomputable def fleet_ctl_done_b801_rr (fn : fleet_ctl_done_b801_ty R) : Run R fleet_ctl_done_b801_p fleet_ctl_done_b801_q := fun x y k => fn y.1.1 y.1.2.1 y.1.2.2.1 y.1.2.2.2.1 y.1.2.2.2.2.1 y.1.2.2.2.2.2.1 y.1.2.2.2.2.2.2.1 y.1.2.2.2.2.2.2.2.1 ((t8 y.1).1) ((t8 y.1).2.1) ((t8 y.1).2.2.1) ((t8 y.1).2.2.2.1) ((t8 y.1).2.2.2.2.1) ((t8 y.1).2.2.2.2.2.1) ((t8 y.1).2.2.2.2.2.2.1) (fun q0 q1 q2 q3 q4 q5 q6 q7 q8 q9 q10 q11 q12 q13 q14 => k (.tuple []) [.cells [.str q0, .int .i64 q1, .int .i64 q2, .int .i64 q3, .int .i64 q4, .int .i64 q5, .sl (.int .i64) q6 .no, .int .i64 q7, .bool q8, .int .i64 q9, .bool q10, .int .i64 q11, .str q12, .int .i64 q13, .int .i64 q14, .nilsl, .nilsl]])
noncomputable def fleet_ctl_done_b801_s (fn : fleet_ctl_done_b801_ty R) := specBy fleet_ctl_done_b801_p fleet_ctl_done_b801_q (fleet_ctl_done_b801_rr fn)
section
noncomputable def fleet_ctl_done_b801_X (x1 : Str) (x2 : Int) (x3 : Int) (x4 : Int) (x5 : Int) (x6 : Int) (x7 : List Int) (x8 : Int) (x9 : Bool) (x10 : Int) (x11 : Bool) (x12 : Int) (x13 : Str) (x14 : Int) (x15 : Int) (k0 : Str → Int → Int → Int → Int → Int → (List Int) → Int → Bool → Int → Bool → Int → Str → Int → Int → Option R) : Option R :=
  k0 x1 x2 x3 x4 x5 x6 x7 x8 x9 x10 false 0 ([] : Str) 0 0
theorem fleet_ctl_done_b801_ok : Tied (R := R) tt [] noT false Tryd.f41 fleet_ctl_done_b801_p fleet_ctl_done_b801_q (fleet_ctl_done_b801_rr fleet_ctl_done_b801_X) := fun x y k => by kernel_rfl
end
noncomputable def fleet_ctl_done_b801 : fleet_ctl_done_b801_ty R := fun x1 x2 x3 x4 x5 x6 x7 x8 x9 x10 x11 x12 x13 x14 x15 k0 => fleet_ctl_done_b801_X x1 x2 x3 x4 x5 x6 x7 x8 x9 x10 x11 x12 x13 x14 x15 k0
theorem fleet_ctl_done_b801_S_ok (R : Type) : OkS Tryd.prog 41 (fleet_ctl_done_b801_s (fleet_ctl_done_b801 (R := R))) := tie_ok TT mixed .n rfl rfl rfl rfl noT_ok (fleet_ctl_done_b801_ok)

/-! ### (*humpyard/fleet.ctl).goes -/
abbrev fleet_ctl_goes_4f52_ty (R : Type) : Type := Int → Yard.Ctl → ((List Int) → Yard.Ctl → Option R) → Option R
abbrev fleet_ctl_goes_4f52_p : List Pat := [.leaf (.ptr 0 0), .leaf (.int .i64)]
abbrev fleet_ctl_goes_4f52_q : List HPat := [.cells [.str, .int .i64, .int .i64, .int .i64, .int .i64, .int .i64, .sl (.int .i64), .int .i64, .bool, .int .i64, .bool, .int .i64, .str, .int .i64, .int .i64, .sl .stop, .sl .way]]
noncomputable def fleet_ctl_goes_4f52_rr (fn : fleet_ctl_goes_4f52_ty R) : Run R fleet_ctl_goes_4f52_p fleet_ctl_goes_4f52_q := fun x y k => fn x.2.1 (⟨y.1.1, y.1.2.1, y.1.2.2.1, y.1.2.2.2.1, y.1.2.2.2.2.1, y.1.2.2.2.2.2.1, y.1.2.2.2.2.2.2.1, y.1.2.2.2.2.2.2.2.1, (t8 y.1).1, (t8 y.1).2.1, (t8 y.1).2.2.1, ⟨(t8 y.1).2.2.2.1, (t8 y.1).2.2.2.2.1, (t8 y.1).2.2.2.2.2.1, (t8 y.1).2.2.2.2.2.2.1, (t8 y.1).2.2.2.2.2.2.2.1, (t8 (t8 y.1)).1⟩⟩ : Yard.Ctl) (fun q0 q1 => k (.sl (.int .i64) q0 .no) [.cells [.str q1.vehicle, .int .i64 q1.header, .int .i64 q1.order, .int .i64 q1.update, .int .i64 q1.boot, .int .i64 q1.seen, .sl (.int .i64) q1.path .no, .int .i64 q1.seq, .bool q1.open_, .int .i64 q1.rel, .bool q1.wait, .int .i64 q1.pending.header, .str q1.pending.vehicle, .int .i64 q1.pending.order, .int .i64 q1.pending.update, .sl .stop q1.pending.nodes .no, .sl .way q1.pending.edges .no]])
noncomputable def fleet_ctl_goes_4f52_s (fn : fleet_ctl_goes_4f52_ty R) := specBy fleet_ctl_goes_4f52_p fleet_ctl_goes_4f52_q (fleet_ctl_goes_4f52_rr fn)
abbrev fleet_ctl_goes_4f52_4_0_ty (R : Type) : Type := Nat → Int → (List Int) → (List Int) → Int → Int → Yard.Ctl → (Int → (List Int) → Yard.Ctl → Option R) → Option R
noncomputable def fleet_ctl_goes_4f52_4_0_h : Hint := { live := [0, 1, 4, 26, 27, 28], own := [(4, (.int .i64))], rows := [], cells := [], drop := [], out := [0, 1, 4] }
abbrev fleet_ctl_goes_4f52_4_0_D : Type := Int × (List Int) × (List Int) × Int × Int × Yard.Ctl
noncomputable def fleet_ctl_goes_4f52_4_0_enc : fleet_ctl_goes_4f52_4_0_D → St := fun d => ⟨.ptr 0 0 :: .int .i64 d.1 :: U 2 (.sl (.int .i64) d.2.1 (.own 1) :: U 21 (.sl (.int .i64) d.2.2.1 .no :: .int .i64 d.2.2.2.1 :: .int .i64 d.2.2.2.2.1 :: U 45 ([]))), [.cells [.str d.2.2.2.2.2.vehicle, .int .i64 d.2.2.2.2.2.header, .int .i64 d.2.2.2.2.2.order, .int .i64 d.2.2.2.2.2.update, .int .i64 d.2.2.2.2.2.boot, .int .i64 d.2.2.2.2.2.seen, .sl (.int .i64) d.2.2.2.2.2.path .no, .int .i64 d.2.2.2.2.2.seq, .bool d.2.2.2.2.2.open_, .int .i64 d.2.2.2.2.2.rel, .bool d.2.2.2.2.2.wait, .int .i64 d.2.2.2.2.2.pending.header, .str d.2.2.2.2.2.pending.vehicle, .int .i64 d.2.2.2.2.2.pending.order, .int .i64 d.2.2.2.2.2.pending.update, .sl .stop d.2.2.2.2.2.pending.nodes .no, .sl .way d.2.2.2.2.2.pending.edges .no], .tok]⟩
noncomputable def fleet_ctl_goes_4f52_4_0_x0 (K : Ex → St → Option R) (q0 : Int) (q1 : List Int) (q2 : Yard.Ctl) : Option R := K (.exit 0) ⟨.ptr 0 0 :: .int .i64 q0 :: U 2 (.sl (.int .i64) q1 (.own 1) :: U 69 ([])), [.cells [.str q2.vehicle, .int .i64 q2.header, .int .i64 q2.order, .int .i64 q2.update, .int .i64 q2.boot, .int .i64 q2.seen, .sl (.int .i64) q2.path .no, .int .i64 q2.seq, .bool q2.open_, .int .i64 q2.rel, .bool q2.wait, .int .i64 q2.pending.header, .str q2.pending.vehicle, .int .i64 q2.pending.order, .int .i64 q2.pending.update, .sl .stop q2.pending.nodes .no, .sl .way q2.pending.edges .no], .tok]⟩
abbrev fleet_ctl_goes_4f52_4_0_p : List Pat := .leaf (.ptr 0 0) :: .leaf (.int .i64) :: PU 2 (.leaf (.slo (.int .i64) 1) :: PU 21 (.leaf (.sl (.int .i64)) :: .leaf (.int .i64) :: .leaf (.int .i64) :: PU 45 ([])))
abbrev fleet_ctl_goes_4f52_4_0_q : List HPat := [.cells [.str, .int .i64, .int .i64, .int .i64, .int .i64, .int .i64, .sl (.int .i64), .int .i64, .bool, .int .i64, .bool, .int .i64, .str, .int .i64, .int .i64, .sl .stop, .sl .way], .tok]
noncomputable def fleet_ctl_goes_4f52_4_0_f (x : Pat.dens fleet_ctl_goes_4f52_4_0_p) (y : HPat.dens fleet_ctl_goes_4f52_4_0_q) : Nat := (Int.natAbs x.2.1 + List.length x.2.2.2.2.1 + List.length ((t8 (t8 (t8 x))).2.2.1) + Int.natAbs ((t8 (t8 (t8 x))).2.2.2.1) + Int.natAbs ((t8 (t8 (t8 x))).2.2.2.2.1) + Yard.Ctl.fu (⟨y.1.1, y.1.2.1, y.1.2.2.1, y.1.2.2.2.1, y.1.2.2.2.2.1, y.1.2.2.2.2.2.1, y.1.2.2.2.2.2.2.1, y.1.2.2.2.2.2.2.2.1, (t8 y.1).1, (t8 y.1).2.1, (t8 y.1).2.2.1, ⟨(t8 y.1).2.2.2.1, (t8 y.1).2.2.2.2.1, (t8 y.1).2.2.2.2.2.1, (t8 y.1).2.2.2.2.2.2.1, (t8 y.1).2.2.2.2.2.2.2.1, (t8 (t8 y.1)).1⟩⟩ : Yard.Ctl) + 64)
noncomputable def fleet_ctl_goes_4f52_4_0_d (x : Pat.dens fleet_ctl_goes_4f52_4_0_p) (y : HPat.dens fleet_ctl_goes_4f52_4_0_q) : fleet_ctl_goes_4f52_4_0_D := (x.2.1, x.2.2.2.2.1, (t8 (t8 (t8 x))).2.2.1, (t8 (t8 (t8 x))).2.2.2.1, (t8 (t8 (t8 x))).2.2.2.2.1, (⟨y.1.1, y.1.2.1, y.1.2.2.1, y.1.2.2.2.1, y.1.2.2.2.2.1, y.1.2.2.2.2.2.1, y.1.2.2.2.2.2.2.1, y.1.2.2.2.2.2.2.2.1, (t8 y.1).1, (t8 y.1).2.1, (t8 y.1).2.2.1, ⟨(t8 y.1).2.2.2.1, (t8 y.1).2.2.2.2.1, (t8 y.1).2.2.2.2.2.1, (t8 y.1).2.2.2.2.2.2.1, (t8 y.1).2.2.2.2.2.2.2.1, (t8 (t8 y.1)).1⟩⟩ : Yard.Ctl))
noncomputable def fleet_ctl_goes_4f52_4_0_rr (L : fleet_ctl_goes_4f52_4_0_ty R) : LRun R fleet_ctl_goes_4f52_4_0_p fleet_ctl_goes_4f52_4_0_q := fun x y K => L (fleet_ctl_goes_4f52_4_0_f x y) x.2.1 x.2.2.2.2.1 ((t8 (t8 (t8 x))).2.2.1) ((t8 (t8 (t8 x))).2.2.2.1) ((t8 (t8 (t8 x))).2.2.2.2.1) (⟨y.1.1, y.1.2.1, y.1.2.2.1, y.1.2.2.2.1, y.1.2.2.2.2.1, y.1.2.2.2.2.2.1, y.1.2.2.2.2.2.2.1, y.1.2.2.2.2.2.2.2.1, (t8 y.1).1, (t8 y.1).2.1, (t8 y.1).2.2.1, ⟨(t8 y.1).2.2.2.1, (t8 y.1).2.2.2.2.1, (t8 y.1).2.2.2.2.2.1, (t8 y.1).2.2.2.2.2.2.1, (t8 y.1).2.2.2.2.2.2.2.1, (t8 (t8 y.1)).1⟩⟩ : Yard.Ctl) (fleet_ctl_goes_4f52_4_0_x0 K)
section
variable (slices_Contains_intint : slices_Contains_intint_ty R) (fleet_ctl_goes_4f52_4_0_L : fleet_ctl_goes_4f52_4_0_ty R)
noncomputable def fleet_ctl_goes_4f52_E : List (Ent R) := [(59, true, (slices_Contains_intint_s slices_Contains_intint specNo))]
noncomputable def fleet_ctl_goes_4f52_4_0_B (rec' : Int → (List Int) → (List Int) → Int → Int → Yard.Ctl → Option R) (x3 : Int) (x4 : List Int) (x5 : List Int) (x6 : Int) (x7 : Int) (x8 : Yard.Ctl) (e0 : Int → (List Int) → Yard.Ctl → Option R) : Option R :=
  bif (decide (x7 < x6)) then (chk (decide ((0 : Int) ≤ x7) && decide (x7 < x5.length)) (slices_Contains_intint x8.path (x5.getD x7.toNat (Ty.dflt (.int .i64))) (fun y9 => bif (!y9) then (slices_Contains_intint x4 (x5.getD x7.toNat (Ty.dflt (.int .i64))) (fun y10 => bif (!y10) then (chk (decide ((x4.length + 1) * 8 ≤ 140737488355328)) (rec' x3 ((x4 : List Int) ++ (([(x5.getD x7.toNat (Ty.dflt (.int .i64)))] : List Int) : List Int)) x5 x6 (IntKind.i64.wrap (x7 + 1)) x8)) else (rec' x3 x4 x5 x6 (IntKind.i64.wrap (x7 + 1)) x8))) else (rec' x3 x4 x5 x6 (IntKind.i64.wrap (x7 + 1)) x8)))) else (e0 x3 x4 x8)
noncomputable def fleet_ctl_goes_4f52_4_0_s (K : Ex → St → Option R) (rc : fleet_ctl_goes_4f52_4_0_D → Option R) (d : fleet_ctl_goes_4f52_4_0_D) : Option R := fleet_ctl_goes_4f52_4_0_B slices_Contains_intint (fun z0 z1 z2 z3 z4 z5 => rc (z0, z1, z2, z3, z4, z5)) d.1 d.2.1 d.2.2.1 d.2.2.2.1 d.2.2.2.2.1 d.2.2.2.2.2 (fleet_ctl_goes_4f52_4_0_x0 K)
noncomputable def fleet_ctl_goes_4f52_T : Nat → Option (Hint × LSpec R) := fun i => match i with
  | 4 => some (fleet_ctl_goes_4f52_4_0_h, (loopBy fleet_ctl_goes_4f52_4_0_p fleet_ctl_goes_4f52_4_0_q (fleet_ctl_goes_4f52_4_0_rr fleet_ctl_goes_4f52_4_0_L) loopNo))
  | _ => none
theorem fleet_ctl_goes_4f52_4_0_B_ok (K : Ex → St → Option R) (rc : St → Option R) (d : fleet_ctl_goes_4f52_4_0_D) : roundOf tt (envL (fleet_ctl_goes_4f52_E slices_Contains_intint)) (fleet_ctl_goes_4f52_T fleet_ctl_goes_4f52_4_0_L) 1 ((loopsOf (codeOf Tryd.f42)).getD 0 .skip) fleet_ctl_goes_4f52_4_0_h (fleet_ctl_goes_4f52_4_0_enc d) rc K = fleet_ctl_goes_4f52_4_0_s slices_Contains_intint K (fun d => rc (fleet_ctl_goes_4f52_4_0_enc d)) d := by kernel_rfl
noncomputable def fleet_ctl_goes_4f52_X (x1 : Int) (x2 : Yard.Ctl) (k0 : (List Int) → Yard.Ctl → Option R) : Option R :=
  chk (decide ((0 : Int) ≤ x1) && decide (x1 ≤ x2.path.length)) (chk (decide ((0 : Int) ≤ x1)) (chk (decide ((0 : Int) ≤ x1) && decide (x1 ≤ x2.path.length)) (fleet_ctl_goes_4f52_4_0_L (Int.natAbs x1 + List.length ([] : List Int) + List.length ((x2.path.drop 0).take (x1.toNat - 0)) + Int.natAbs (((x2.path.drop 0).take (x1.toNat - 0)).length : Int) + Int.natAbs 0 + Yard.Ctl.fu (⟨x2.vehicle, x2.header, x2.order, x2.update, x2.boot, x2.seen, (x2.path.drop x1.toNat), x2.seq, x2.open_, x2.rel, x2.wait, ⟨x2.pending.header, x2.pending.vehicle, x2.pending.order, x2.pending.update, x2.pending.nodes, x2.pending.edges⟩⟩ : Yard.Ctl) + 64) x1 ([] : List Int) ((x2.path.drop 0).take (x1.toNat - 0)) (((x2.path.drop 0).take (x1.toNat - 0)).length : Int) 0 (⟨x2.vehicle, x2.header, x2.order, x2.update, x2.boot, x2.seen, (x2.path.drop x1.toNat), x2.seq, x2.open_, x2.rel, x2.wait, ⟨x2.pending.header, x2.pending.vehicle, x2.pending.order, x2.pending.update, x2.pending.nodes, x2.pending.edges⟩⟩ : Yard.Ctl) (fun y12 y13 y14 => k0 y13 (⟨y14.vehicle, y14.header, y14.order, y14.update, y14.boot, y14.seen, y14.path, (IntKind.i64.wrap (y14.seq + y12)), y14.open_, (max (IntKind.i64.wrap (y14.rel - (IntKind.i64.wrap (Int.tdiv y12 2)))) 0), y14.wait, ⟨y14.pending.header, y14.pending.vehicle, y14.pending.order, y14.pending.update, y14.pending.nodes, y14.pending.edges⟩⟩ : Yard.Ctl)))))
theorem fleet_ctl_goes_4f52_ok : Tied (R := R) tt (fleet_ctl_goes_4f52_E slices_Contains_intint) (fleet_ctl_goes_4f52_T fleet_ctl_goes_4f52_4_0_L) false Tryd.f42 fleet_ctl_goes_4f52_p fleet_ctl_goes_4f52_q (fleet_ctl_goes_4f52_rr (fleet_ctl_goes_4f52_X fleet_ctl_goes_4f52_4_0_L)) := fun x y k => by kernel_rfl
end
theorem fleet_ctl_goes_4f52_EOk : EntOk (R := R) Tryd.prog (fleet_ctl_goes_4f52_E (R := R) slices_Contains_intint) := .c (slices_Contains_intint_S_ok R) <| .n
noncomputable def fleet_ctl_goes_4f52_4_0_L : fleet_ctl_goes_4f52_4_0_ty R
  | 0, _, _, _, _, _, _, _ => none
  | n + 1, x0', x1', x2', x3', x4', x5', e0 => fleet_ctl_goes_4f52_4_0_B slices_Contains_intint (fun x0' x1' x2' x3' x4' x5' => fleet_ctl_goes_4f52_4_0_L n x0' x1' x2' x3' x4' x5' e0) x0' x1' x2' x3' x4' x5' e0
noncomputable def fleet_ctl_goes_4f52_4_0_A (K : Ex → St → Option R) (n : Nat) (d : fleet_ctl_goes_4f52_4_0_D) : Option R := fleet_ctl_goes_4f52_4_0_L n d.1 d.2.1 d.2.2.1 d.2.2.2.1 d.2.2.2.2.1 d.2.2.2.2.2 (fleet_ctl_goes_4f52_4_0_x0 K)
theorem fleet_ctl_goes_4f52_4_0_ok (other : LSpec R) (ho : LsOk tt (envL (fleet_ctl_goes_4f52_E (R := R) slices_Contains_intint)) (fleet_ctl_goes_4f52_T (R := R) fleet_ctl_goes_4f52_4_0_L) 1 ((loopsOf (codeOf Tryd.f42)).getD 0 .skip) fleet_ctl_goes_4f52_4_0_h other) : LsOk tt (envL (fleet_ctl_goes_4f52_E (R := R) slices_Contains_intint)) (fleet_ctl_goes_4f52_T (R := R) fleet_ctl_goes_4f52_4_0_L) 1 ((loopsOf (codeOf Tryd.f42)).getD 0 .skip) fleet_ctl_goes_4f52_4_0_h (loopBy fleet_ctl_goes_4f52_4_0_p fleet_ctl_goes_4f52_4_0_q (fleet_ctl_goes_4f52_4_0_rr (fleet_ctl_goes_4f52_4_0_L)) other) :=
  loopBy_tie (A := fleet_ctl_goes_4f52_4_0_A) ho (loop_tie fleet_ctl_goes_4f52_4_0_enc (fleet_ctl_goes_4f52_4_0_s slices_Contains_intint) (fleet_ctl_goes_4f52_4_0_A) (fun _ _ => by kernel_rfl) (fleet_ctl_goes_4f52_4_0_B_ok slices_Contains_intint fleet_ctl_goes_4f52_4_0_L) (fun _ _ _ => by kernel_rfl)) fleet_ctl_goes_4f52_4_0_f fleet_ctl_goes_4f52_4_0_d (fun _ _ => by kernel_rfl) (fun _ _ _ => by kernel_rfl)
noncomputable def fleet_ctl_goes_4f52 : fleet_ctl_goes_4f52_ty R := fun x1 x2 k0 => fleet_ctl_goes_4f52_X fleet_ctl_goes_4f52_4_0_L x1 x2 k0
theorem fleet_ctl_goes_4f52_loops (R : Type) : ∀ a ∈ loopsOf (codeOf Tryd.f42), LoopOk tt (envL (fleet_ctl_goes_4f52_E (R := R) slices_Contains_intint)) (fleet_ctl_goes_4f52_T (R := R) fleet_ctl_goes_4f52_4_0_L) 1 a := by
  refine loops_ok 1 (by kernel_rfl) fun i hi => ?_
  match i, hi with
  | 0, _ => exact loopOk_some (by kernel_rfl) (fleet_ctl_goes_4f52_4_0_ok _ loopNo_ok)
  | n + 1, hi => omega
theorem fleet_ctl_goes_4f52_S_ok (R : Type) : OkS Tryd.prog 42 (fleet_ctl_goes_4f52_s (fleet_ctl_goes_4f52 (R := R))) := tie_ok TT mixed (fleet_ctl_goes_4f52_EOk (R := R)) rfl rfl rfl rfl (fleet_ctl_goes_4f52_loops R) (fleet_ctl_goes_4f52_ok slices_Contains_intint fleet_ctl_goes_4f52_4_0_L)

end Go.Proofs.YtolnaonmpohciaaDoor

