/-
  The abstract interpreter, part 12: reads. Own work.
-/
import Derived.Test.YtcocpfgemdkkfaaAiOpW
import Derived.Laws.BytesString
import Derived.Laws.Cover4
import Derived.Laws.Rows
namespace Go.Yard
open Go.RowKit

section
variable {P : Program} {tt : TTab} {w : World} {h : Heap} {c : Cfg} {R : Type}

/-- Cells from an address on. -/
def CellsAt (w : World) (b o : Nat) (ds : List Value) : Prop := ∀ (j : Nat) (d : Value), ds[j]? = some d → w.cell? ⟨b, o + j, none⟩ = some d

theorem loadVar_sound (T : TOK P tt) {t b o off : Nat} {cs : List V} {ds : List Value} (hr : RepL w h c cs ds) (hc : CellsAt w b o ds) {k : V → Option R} {r : R} (hk : partK tt t cs off k = some r) :
    Makes P w h c (loadVar t ⟨b, o + off, none⟩) k r := by
  have hok := partK_ok hk
  unfold partK at hk
  rw [if_pos hok] at hk
  split at hk
  · rename_i hagg
    split at hk
    · rename_i hsz
      have hlen : ((ds.drop off).take (tt.at t).size).length = (tt.at t).size := by have := hr.1; simp; omega
      have hrep := (hr.drop off).take (tt.at t).size
      have hcells := run_loadCells_list (P := P) w ⟨b, o + off, none⟩ ((ds.drop off).take (tt.at t).size) (fun j v hv => by
        rw [List.getElem?_take] at hv
        split at hv
        · rw [List.getElem?_drop] at hv
          rw [add_off, Nat.add_assoc]
          exact hc _ v hv
        · cases hv)
      rw [hlen] at hcells
      refine ⟨_, .agg ((ds.drop off).take (tt.at t).size).toArray, ?_, .agg (by have := hrep.1; simpa using this) (fun j v d hv hd => hrep.2 j v d hv (by simpa using hd)), hk⟩
      simp [loadVar, T.isAgg hok, hagg, T.sizeOf hok, hcells]
    · cases hk
  · rename_i hagg
    split at hk
    · rename_i v hv
      have hlt : off < cs.length := (List.getElem?_eq_some_iff.1 hv).1
      have hd : ds[off]? = some (ds[off]'(by have := hr.1; omega)) := List.getElem?_eq_getElem _
      refine ⟨v, _, ?_, hr.2 off v _ hv hd, hk⟩
      simp [loadVar, T.isAgg hok, hagg, hc off _ hd]
    · cases hk

theorem Heap.at_live {i : Nat} {o : AObj} (e : h.at i = o) (hl : o ≠ .dead) : i < h.length := by
  unfold Heap.at at e
  rcases Nat.lt_or_ge i (List.length h) with hi | hi
  · exact hi
  · simp [List.getD, List.getElem?_eq_none hi] at e
    exact absurd e.symm hl

theorem foldl_push (ns : List Int) : ∀ s : ByteArray, (ns.foldl (fun (r : ByteArray) n => r.push (UInt8.ofNat n.toNat)) s).data.toList = s.data.toList ++ ns.map fun n => UInt8.ofNat n.toNat := by
  induction ns with
  | nil => intro s; simp
  | cons n ns ih => intro s; simp only [List.foldl_cons]; rw [ih]; simp [ByteArray.push]

theorem repl_ints {ik : IntKind} {l : List Int} {ds : List Value} (r : RepL w h c (l.map (V.int ik)) ds) : ds = l.map (Value.int ik) := by
  apply List.ext_getElem?
  intro j
  have hl : l.length = ds.length := by have := r.1; simpa using this
  by_cases hj : j < l.length
  · have h1 : ds[j]? = some (ds[j]'(by omega)) := List.getElem?_eq_getElem _
    have := r.2 j (.int ik l[j]) (ds[j]'(by omega)) (by simp [List.getElem?_map, List.getElem?_eq_getElem hj]) h1
    rw [h1, this.int_inv.1]
    simp [List.getElem?_eq_getElem hj]
  · rw [List.getElem?_eq_none (by omega), List.getElem?_eq_none (by simp; omega)]

/-- The cells of a row of ours. -/
theorem row_cells (wf : WF w h c) {i : Nat} {T' : Ty} {l : List T'.den} (he : h.at i = .row T' l) {j : Nat} (hj : j < l.length) :
    ∃ b ds, c.blk i = some b ∧ CellsAt w b (c.off i + j * T'.sz) ds ∧ RepL w h c (T'.cells l[j]) ds := by
  have hi := Heap.at_live he (by simp)
  have ho := wf.obj i hi
  rw [he] at ho
  rcases ho with ⟨_, rfl⟩ | ⟨b, arr, e, fz, h1, h2, h3, h4, h5⟩
  · simp at hj
  · have hlen := T'.cells_len l[j]
    have hm : (j + 1) * T'.sz ≤ l.length * T'.sz := Nat.mul_le_mul_right _ hj
    rw [Nat.add_mul] at hm
    refine ⟨b, (arr.toList.drop (c.off i + j * T'.sz)).take T'.sz, h1, fun x d hd => ?_, ?_, fun x v d hv hd => ?_⟩
    · rw [List.getElem?_take] at hd
      split at hd
      · rw [List.getElem?_drop] at hd
        rw [cell_of_row w b _ arr e fz h2]
        simpa using hd
      · cases hd
    · rw [hlen]; simp; omega
    · obtain ⟨d', g1, g2⟩ := h5 j x l[j] v (List.getElem?_eq_getElem hj) hv
      rw [List.getElem?_take] at hd
      split at hd
      · rw [List.getElem?_drop] at hd
        have : d' = d := by
          have e1 : arr[c.off i + j * T'.sz + x]? = some d := by simpa using hd
          rw [g1] at e1; exact Option.some.inj e1
        subst this
        exact g2
      · cases hd

theorem getD_eq {T' : Ty} {l : List T'.den} {j : Nat} (hj : j < l.length) : l.getD j T'.dflt = l[j] := by simp [List.getD, List.getElem?_eq_getElem hj]

theorem load_sound (T : TOK P tt) (wf : WF w h c) {t : Nat} {a : V} {a' : Value} (ra : Rep w h c a a') {lim : Option Nat} {k : V → Option R} {r : R}
    (hk : (match (generalizing := false) a with
    | .ptr i o =>
      if limOk lim i then
        match (generalizing := false) h.at i with
        | .cells cs => partK tt t cs o k
        | _ => none
      else none
    | .iptr cs => partK tt t cs 0 k
    | .rptr i sz j o =>
      if limOk lim i then
        match (generalizing := false) h.at i with
        | .row T l => if sz = T.sz then chk (decide (j < l.length)) (partK tt t (T.cells (l.getD j T.dflt)) o k) else none
        | _ => none
      else none
    | _ => none) = some r) : Makes P w h c (Instr.loadAt t a') k r := by
  split at hk
  · rename_i i o
    split at hk
    · split at hk
      · rename_i cs he
        have hi := Heap.at_live he (by simp)
        have ho := wf.obj i hi
        rw [he] at ho
        obtain ⟨b, arr, e, h1, h2, h3⟩ := ho
        cases ra with
        | ptr hu hv =>
          obtain ⟨b', rfl, hb⟩ := hv
          have hb' := hb (by rw [he]; simp)
          rw [h1] at hb'
          cases hb'
          have := loadVar_sound (w := w) (b := b) (o := 0) T h3 (fun j d hd => by
            rw [cell_of_row w b _ arr e _ h2]; simpa using hd) hk
          simpa [Makes, Instr.loadAt, Instr.sureAddr] using this
      · cases hk
    · cases hk
  · rename_i cs
    cases ra with
    | @iptr _ b o f hc hr =>
      have hr' : RepL w h c cs ((List.range cs.length).map f) := by
        refine ⟨by simp, fun j v d hv hd => ?_⟩
        simp only [List.getElem?_map] at hd
        have hlt : j < cs.length := (List.getElem?_eq_some_iff.1 hv).1
        rw [List.getElem?_range hlt] at hd
        simp at hd; subst hd
        exact hr j v hv
      have := loadVar_sound (w := w) (b := b) (o := o) (off := 0) T hr' (fun j d hd => by
        simp only [List.getElem?_map] at hd
        by_cases hlt : j < cs.length
        · rw [List.getElem?_range hlt] at hd
          simp at hd; subst hd
          exact (hc j hlt).1
        · rw [List.getElem?_eq_none (by simp; omega)] at hd; cases hd) hk
      simpa [Makes, Instr.loadAt, Instr.sureAddr] using this
  · rename_i i sz j o
    split at hk
    · split at hk
      · rename_i T' l he
        split at hk
        · rename_i hsz
          obtain ⟨hj, hk⟩ := chk_some hk
          simp at hj
          rw [getD_eq hj] at hk
          obtain ⟨b, ds, h1, h2, h3⟩ := row_cells wf he hj
          cases ra with
          | rptr hu hv =>
            obtain ⟨a, rfl, hv⟩ := hv
            obtain ⟨b', hb', rfl⟩ := hv T' l he hsz hj
            rw [h1] at hb'
            cases hb'
            have := loadVar_sound T h3 h2 hk
            simpa [Makes, Instr.loadAt, Instr.sureAddr] using this
        · cases hk
      · cases hk
    · cases hk
  · cases hk

theorem row_bytes (wf : WF w h c) {i : Nat} {ik : IntKind} {l : List Int} (hl : h.at i = .row (.int ik) l) (hne : l ≠ []) :
    ∃ b, c.blk i = some b ∧ CellsAt w b (c.off i) (l.map (Value.int ik)) := by
  have hi := Heap.at_live hl (by simp)
  have ho := wf.obj i hi
  rw [hl] at ho
  rcases ho with ⟨_, rfl⟩ | ⟨b, arr, el, fz, p1, p2, p3, p4, p5⟩
  · exact absurd rfl hne
  · have p5' : ∀ (n : Nat) (z : Int), l[n]? = some z → arr[c.off i + n]? = some (.int ik z) := fun n z hz => by
      obtain ⟨d, t1, t2⟩ := p5 n 0 z (.int ik z) hz rfl
      rw [t2.int_inv.1] at t1
      simpa [Ty.sz] using t1
    refine ⟨b, p1, fun j d hd => ?_⟩
    simp only [List.getElem?_map] at hd
    cases hlj : l[j]? with
    | none => rw [hlj] at hd; cases hd
    | some z =>
      rw [hlj] at hd; simp at hd; subst hd
      rw [cell_of_row w b _ arr el fz p2]
      exact p5' j z hlj

theorem sl_bytes {ik : IntKind} {l : List Int} {t : Tok} {A : Option Addr} {n cap : Nat} (r : Rep w h c (.sl (.int ik) l t) (.slice A n cap)) (hne : l ≠ []) :
    ∃ b o, A = some ⟨b, o, none⟩ ∧ n = l.length ∧ CellsAt w b o (l.map (Value.int ik)) := by
  cases r with
  | sl f hcap hmx hc hr hnil hown =>
    have hpos : 0 < l.length := List.length_pos_iff.2 hne
    obtain ⟨b, o, rfl, _⟩ := hc 0 0 hpos (by simp [Ty.sz])
    refine ⟨b, o, rfl, rfl, fun j d hd => ?_⟩
    simp only [List.getElem?_map] at hd
    cases hlj : l[j]? with
    | none => rw [hlj] at hd; cases hd
    | some z =>
      rw [hlj] at hd; simp at hd; subst hd
      have hlt : j < l.length := (List.getElem?_eq_some_iff.1 hlj).1
      obtain ⟨b', o', e', g1, _⟩ := hc j 0 hlt (by simp [Ty.sz])
      cases e'
      have := hr j 0 z (.int ik z) hlj rfl
      rw [this.int_inv.1] at g1
      simpa [Ty.sz] using g1

theorem conv_bytes {s d e : TypeId} (us : P.underlying s = some (.slice e)) (ue : P.underlying e = some (.int .u8)) (ud : P.underlying d = some .string) {l : List Int} {A : Option Addr} {n cap : Nat}
    (hn : n = l.length) (hcell : l ≠ [] → ∃ b o, A = some ⟨b, o, none⟩ ∧ CellsAt w b o (l.map (Value.int .u8))) :
    ∃ t, (convert s d (.slice A n cap)).run P w = .ok (.string t) w ∧ t.data.toList = l.map fun n => UInt8.ofNat n.toNat := by
  rw [run_convert_bytes_string w s d e A n cap us ue ud]
  by_cases hl0 : l = []
  · subst hl0
    subst hn
    refine ⟨.empty, ?_, rfl⟩
    cases A with
    | none => simp [Conv.bytesToString]
    | some a =>
      have hlc := run_loadCells_list (P := P) w a [] (fun j v hv => by simp at hv)
      exact run_bytesToString (P := P) w a 0 cap [] (by simpa using hlc)
  · obtain ⟨b, o, rfl, hc⟩ := hcell hl0
    have hlc := run_loadCells_list (P := P) w ⟨b, o, none⟩ (l.map (Value.int .u8)) (fun j v hv => by rw [add_off]; exact hc j v hv)
    rw [List.length_map, ← hn] at hlc
    exact ⟨_, run_bytesToString (P := P) w ⟨b, o, none⟩ n cap l hlc, by rw [foldl_push]; rfl⟩

theorem foldl_runes (l : List Int) : ∀ s : ByteArray, (l.foldl (fun r n => r ++ Utf8.encode n) s).data.toList = s.data.toList ++ runesB l := by
  induction l with
  | nil => intro s; simp [runesB]
  | cons n l ih => intro s; simp only [List.foldl_cons]; rw [ih]; simp [runesB]

theorem runesBytes_list (l : List Int) : (Go.runesBytes l).data.toList = runesB l := by
  unfold Go.runesBytes
  rw [foldl_runes]
  simp

theorem conv_runes {s d e : TypeId} (us : P.underlying s = some (.slice e)) (ue : P.underlying e = some (.int .i32)) (ud : P.underlying d = some .string) {l : List Int} {A : Option Addr} {n cap : Nat}
    (hn : n = l.length) (hcell : l ≠ [] → ∃ b o, A = some ⟨b, o, none⟩ ∧ CellsAt w b o (l.map (Value.int .i32))) :
    ∃ t, (convert s d (.slice A n cap)).run P w = .ok (.string t) w ∧ t.data.toList = runesB l ∧ t.size ≤ 4 * l.length := by
  have hcv : (convert s d (.slice A n cap)).run P w = (Conv.runesToString (.slice A n cap)).run P w := by
    unfold convert
    simp [run_underlying us, run_underlying ue, run_underlying ud]
  rw [hcv]
  by_cases hl0 : l = []
  · subst hl0
    subst hn
    refine ⟨.empty, ?_, rfl, by simp⟩
    cases A with
    | none => simp [Conv.runesToString]
    | some a =>
      have hlc := run_loadCells_list (P := P) w a [] (fun j v hv => by simp at hv)
      exact Go.run_runesToString (P := P) w a 0 cap [] (by simpa using hlc)
  · obtain ⟨b, o, rfl, hc⟩ := hcell hl0
    have hlc := run_loadCells_list (P := P) w ⟨b, o, none⟩ (l.map (Value.int .i32)) (fun j v hv => by rw [add_off]; exact hc j v hv)
    rw [List.length_map, ← hn] at hlc
    exact ⟨_, Go.run_runesToString (P := P) w ⟨b, o, none⟩ n cap l hlc, runesBytes_list l, Go.runesBytes_size_le l⟩

/-- WHATEVER READS IS SOUND. -/
theorem opR_sound (T : TOK P tt) (wf : WF w h c) {o : Oper} {ρ : Operand → V} {ρ' : Operand → Value} (hρ : ∀ x, Rep w h c (ρ x) (ρ' x)) {lim : Option Nat} {k : V → Option R} {r : R}
    (hk : opR tt o.op ρ h lim k = some r) : ∃ v v', (execOp ρ' o).run P w = .ok (.value v') w ∧ Rep w h c v v' ∧ k v = some r := by
  obtain ⟨dst, op, type, pos, after, guard⟩ := o
  cases op <;> simp only [opR] at hk <;> try (first | cases hk)
  case load t x => exact makes_run (load_sound T wf (hρ x) hk)
  case convert s d x =>
    have rx := hρ x
    split at hk <;> try (first | cases hk)
    · rename_i e i n hd hs hx
      rw [hx] at rx
      split at hk
      · split at hk <;> try (first | cases hk)
        rename_i l he hl
        have ud := und_of T hd
        have us := und_of T hs
        have ue := und_of T he
        simp only [TD.Is] at ud us ue
        cases rx with
        | row hu hn hv =>
          obtain ⟨A, cap, hv', hA, hv⟩ := hv
          obtain ⟨g1, g2, g3, g4⟩ := hv _ _ hl
          obtain ⟨t, h1, h2⟩ := conv_bytes (w := w) (A := A) (cap := cap) (l := l) us ue ud g1 (fun hne => by
            obtain ⟨b, hb, hc⟩ := row_bytes wf hl hne
            rcases g4 with ⟨q0, _⟩ | ⟨b', arr, el, fz, q1, rfl, q2, q3⟩
            · rw [hb] at q0; cases q0
            · rw [hb] at q1; cases q1
              exact ⟨b, _, rfl, hc⟩)
          refine ⟨_, .string t, ?_, rep_str t h2 ?_, hk⟩
          · simp only [execOp, Sem.run_bind, hv', h1, Result.andThen_ok, Sem.run_pure]
          · refine Nat.le_trans (Nat.le_of_eq (List.length_map (as := (l : List Int)) _)) ?_
            exact (show l.length ≤ mx from g1 ▸ hn)
      · cases hk
    · rename_i e T' l tk hd hs hx
      rw [hx] at rx
      split at hk <;> try (first | cases hk)
      · rename_i l he
        have ud := und_of T hd
        have us := und_of T hs
        have ue := und_of T he
        simp only [TD.Is] at ud us ue
        obtain ⟨A, cap, hv, hcap, hmx⟩ := sl_inv rx
        rw [hv] at rx
        obtain ⟨t, h1, h2⟩ := conv_bytes (w := w) (A := A) (cap := cap) (l := l) (n := List.length l) us ue ud rfl (fun hne => by
          obtain ⟨b, o, e1, _, e3⟩ := sl_bytes rx hne
          exact ⟨b, o, e1, e3⟩)
        refine ⟨_, .string t, ?_, rep_str t h2 ?_, hk⟩
        · simp only [execOp, Sem.run_bind, hv, h1, Result.andThen_ok, Sem.run_pure]
        · refine Nat.le_trans (Nat.le_of_eq (List.length_map (as := (l : List Int)) _)) ?_
          exact Nat.le_trans hcap hmx
      · rename_i l he
        obtain ⟨hb, hk⟩ := chk_some hk
        have ud := und_of T hd
        have us := und_of T hs
        have ue := und_of T he
        simp only [TD.Is] at ud us ue
        obtain ⟨A, cap, hv, hcap, hmx⟩ := sl_inv rx
        rw [hv] at rx
        obtain ⟨t, h1, h2, h3⟩ := conv_runes (w := w) (A := A) (cap := cap) (l := l) (n := List.length l) us ue ud rfl (fun hne => by
          obtain ⟨b, o, e1, _, e3⟩ := sl_bytes rx hne
          exact ⟨b, o, e1, e3⟩)
        refine ⟨_, .string t, ?_, rep_str t h2 ?_, hk⟩
        · simp only [execOp, Sem.run_bind, hv, h1, Result.andThen_ok, Sem.run_pure]
        · rw [← h2]
          have hb' : 4 * List.length (l : List Int) ≤ 9223372036854775807 := of_decide_eq_true hb
          refine Nat.le_trans ?_ hb'
          exact h3
end
end Go.Yard
