/-
  The abstract interpreter, part 16: stores. Own work.
-/
import Derived.Test.YtcocpfgemdkkfaaAiOpB
namespace Go.Yard
open Go.RowKit

section
variable {P : Program} {tt : TTab} {w w' : World} {h : Heap} {c : Cfg} {R : Type}

/-- Only block b has turned: its cells. -/
structure Wrote (w w' : World) (b : Nat) (cur : Array Value) (e : TypeId) (fz : Nat × Nat) : Prop where
  os : w'.os = w.os
  tape : w'.tape = w.tape
  output : w'.output = w.output
  size : w'.heap.size = w.heap.size
  other : ∀ k, k ≠ b → w'.heap[k]? = w.heap[k]?
  here : w'.heap[b]? = some (.cells cur e fz)

theorem frozen_of {w : World} {b : Nat} {arr : Array Value} {e : TypeId} {lo hi : Nat} (hb : w.heap[b]? = some (.cells arr e (lo, hi))) (x : Nat) : w.frozen? ⟨b, x, none⟩ = (decide (lo ≤ x) && decide (x < hi)) := by
  simp [World.frozen?, hb]

theorem run_storeCells_gen (b o : Nat) (e : TypeId) (fz : Nat × Nat) : ∀ (vs : List Value) (i : Nat) (cur : Array Value) (w : World), w.heap[b]? = some (.cells cur e fz) → o + i + vs.length ≤ cur.size →
    (∀ x, o + i ≤ x → x < o + i + vs.length → w.frozen? ⟨b, x, none⟩ = false) → Ones vs →
    ∃ (w' : World) (cur' : Array Value), (storeCells ⟨b, o, none⟩ vs i).run P w = .ok () w' ∧ Wrote w w' b cur' e fz ∧ cur'.toList = cur.toList.take (o + i) ++ vs ++ cur.toList.drop (o + i + vs.length)
  | [], i, cur, w, hb, _, _, _ => ⟨w, cur, by simp [storeCells], ⟨rfl, rfl, rfl, rfl, fun _ _ => rfl, hb⟩, by simp⟩
  | v :: vs, i, cur, w, hb, hs, hf, h1 => by
    simp only [List.length_cons] at hs hf
    have hv : v.oneCell' = true := h1 v (by simp)
    have hlt : o + i < cur.size := by omega
    have hcell : w.cell? ⟨b, o + i, none⟩ = some cur[o + i] := by rw [cell_of_row w b _ cur e fz hb]; exact Array.getElem?_eq_getElem hlt
    have hfz := hf (o + i) (Nat.le_refl _) (by omega)
    have hstore : (store ((⟨b, o, none⟩ : Addr).add i) v).run P w = .ok () (w.setCell ⟨b, o + i, none⟩ v) := by
      rw [add_off, run_store P w _ v _ hv, hcell]
      simp [hfz]
    have hb' : (w.setCell ⟨b, o + i, none⟩ v).heap[b]? = some (.cells (cur.setIfInBounds (o + i) v) e fz) := by
      simp [World.setCell, Array.getElem?_modify, hb]
    obtain ⟨w', cur', g1, g2, g3⟩ := run_storeCells_gen b o e fz vs (i + 1) (cur.setIfInBounds (o + i) v) (w.setCell ⟨b, o + i, none⟩ v) hb' (by simp; omega)
      (fun x hx1 hx2 => by rw [World.frozen?_setCell]; exact hf x (by omega) (by omega)) (fun d hd => h1 d (by simp [hd]))
    refine ⟨w', cur', ?_, ⟨g2.os, g2.tape, g2.output, by rw [g2.size]; simp, fun k hk => ?_, g2.here⟩, ?_⟩
    · simp only [storeCells, Sem.run_bind, hstore, Result.andThen_ok, g1]
    · rw [g2.other k hk]; exact heap_setCell_other w _ k v hk
    · rw [g3]
      have := setAll [v] 0 (o + i) cur (by simp; omega)
      simp only [List.zipIdx_cons, List.zipIdx_nil, List.foldl_cons, List.foldl_nil, Nat.add_zero, List.length_singleton] at this
      rw [this]
      have e1 : o + (i + 1) = o + i + 1 := by omega
      have l1 : (cur.toList.take (o + i) ++ [v]).length = o + i + 1 := by simp; omega
      rw [e1, List.take_append_of_le_length (by omega), List.take_of_length_le (by omega)]
      have e2 : o + i + 1 + vs.length = (cur.toList.take (o + i) ++ [v]).length + vs.length := by omega
      rw [e2, List.drop_append]
      have e3 : (cur.toList.take (o + i) ++ [v]).length + vs.length - (cur.toList.take (o + i) ++ [v]).length = vs.length := by omega
      rw [e3, List.drop_eq_nil_of_le (by omega), List.nil_append, List.drop_drop]
      simp only [List.append_assoc, List.length_cons, List.cons_append]
      rw [List.nil_append, show o + i + 1 + vs.length = o + i + (vs.length + 1) from by omega]

/-- An object of ours has turned, in its own block. -/
theorem upd_ext {i b : Nat} {o' : AObj} {cur cur' : Array Value} {e : TypeId} {fz : Nat × Nat} (hb : c.blk i = some b) (hcur : w.heap[b]? = some (.cells cur e fz)) (hw : Wrote w w' b cur' e fz) (hsz : cur'.size = cur.size)
    (hfrom : (h.at i).from_ (c.off i) = some 0) (hfrom' : o'.from_ (c.off i) = some 0) (hsim : (h.at i).sim o') : Ext w h c w' (h.set i o') c := by
  have hi : i < h.length := Heap.at_live rfl (AObj.sim_dead hsim).1
  have hown : ∀ x, Owns h c b x := fun x => ⟨i, 0, hb, hfrom, Nat.zero_le _⟩
  constructor
  · exact hw.os
  · exact hw.tape
  · exact hw.output
  · rw [hw.size]; exact Nat.le_refl _
  · intro j hj
    by_cases hij : i = j
    · subst hij
      refine ⟨by simpa using hj.1, ?_⟩
      rw [at_set_eq _ hi]
      intro he; subst he; simp [AObj.from_] at hfrom'
    · exact ⟨by simpa using hj.1, by rw [at_set_ne _ hij]; exact hj.2⟩
  · intro j hj hd
    refine ⟨?_, rfl, rfl⟩
    by_cases hij : i = j
    · subst hij; rw [at_set_eq _ hi]; exact hsim
    · rw [at_set_ne _ hij] at hd ⊢
      have h2 := hj.2
      revert hd h2
      cases h.at j <;> simp [AObj.sim]
  · intro b' x hx ho
    have hne : b' ≠ b := by rintro rfl; exact ho (hown x)
    exact blocks_cell (hw.other b' hne)
  · intro b' hx ho
    have hne : b' ≠ b := by rintro rfl; exact ho 0 (hown 0)
    exact hw.other b' hne
  · rintro b' x hx ⟨j, f, g1, g2, g3⟩
    by_cases hij : i = j
    · subst hij
      rw [hb] at g1; cases g1
      exact hown x
    · rw [at_set_ne _ hij] at g2
      exact ⟨j, f, g1, g2, g3⟩
  · rfl
  · intro b' arr el fz' ha
    by_cases hne : b' = b
    · subst hne
      rw [hcur] at ha; cases ha
      exact ⟨cur', fz, hw.here, hsz⟩
    · exact ⟨arr, fz', by rw [hw.other b' hne]; exact ha, rfl⟩

theorem from_live {o : AObj} {f g : Nat} (hf : o.from_ f = some g) : o.live := by revert hf; cases o <;> simp [AObj.from_, AObj.live]

theorem upd_wf (wf : WF w h c) {i b : Nat} {o' : AObj} {cur cur' : Array Value} {e : TypeId} {fz : Nat × Nat} (hb : c.blk i = some b) (hcur : w.heap[b]? = some (.cells cur e fz)) (hw : Wrote w w' b cur' e fz) (hsz : cur'.size = cur.size)
    (hfrom : (h.at i).from_ (c.off i) = some 0) (hfrom' : o'.from_ (c.off i) = some 0) (hsim : (h.at i).sim o') (hob : ObjOK w' (h.set i o') c i o') : WF w' (h.set i o') c := by
  have hi : i < h.length := Heap.at_live rfl (AObj.sim_dead hsim).1
  have x := upd_ext hb hcur hw hsz hfrom hfrom' hsim
  have hli := from_live hfrom
  have hlive : ∀ j, (Heap.at (h.set i o') j).live → (h.at j).live := fun j hj => by
    by_cases hij : i = j
    · subst hij; exact hli
    · rw [at_set_ne _ hij] at hj; exact hj
  constructor
  · intro b' y ho he
    exact wf.disj b' y (x.owns b' y (wf.extlt b' y he) ho) he
  · intro b' y he
    rw [hw.size]; exact wf.extlt b' y he
  · intro j hj
    by_cases hij : i = j
    · subst hij; rw [at_set_eq _ hi]; exact hob
    · rw [at_set_ne _ hij]
      by_cases hl : (h.at j).live
      · refine (wf.obj j (by simpa using hj)).keep x (fun b' hb' => hw.other b' ?_) rfl rfl
        rintro rfl
        exact hij (wf.inj i j b' hli hl hb hb')
      · revert hl; cases h.at j <;> simp [AObj.live, ObjOK]
  · intro j k b' hj hk h1 h2
    exact wf.inj j k b' (hlive j hj) (hlive k hk) h1 h2

theorem splice_len {cs vs : List V} {o : Nat} (h : o + vs.length ≤ cs.length) : (splice cs o vs).length = cs.length := by simp [splice]; omega
theorem splice_rep {cs vs : List V} {ds us : List Value} (r : RepL w h c cs ds) (s : RepL w h c vs us) (o : Nat) : RepL w h c (splice cs o vs) (ds.take o ++ us ++ ds.drop (o + us.length)) := by
  unfold splice
  rw [s.1]
  exact ((r.take o).append s).append (r.drop _)

theorem store_cells (wf : WF w h c) {t : Nat} (T : TOK P tt) {i o : Nat} {cs vs : List V} {a' y' : Value} (ra : Rep w h c (.ptr i o) a') (hcs : h.at i = .cells cs) (rv : RepL w h c vs y'.cells.toList) (h1 : Ones y'.cells.toList)
    (hok : tt.ok t = true) (hsz : vs.length = (tt.at t).size) (hlt : o + vs.length ≤ cs.length) :
    ∃ w', (Instr.storeAt t a' y').run P w = .ok () w' ∧ WF w' (h.set i (.cells (splice cs o vs))) c ∧ Ext w h c w' (h.set i (.cells (splice cs o vs))) c := by
  have hi := Heap.at_live hcs (by simp)
  have ho := wf.obj i hi
  rw [hcs] at ho
  obtain ⟨b, arr, e, g1, g2, g3⟩ := ho
  cases ra with
  | ptr hu hv =>
    obtain ⟨b', rfl, hb'⟩ := hv
    have := hb' (by rw [hcs]; simp)
    rw [g1] at this; cases this
    have hl := g3.1
    simp only [Array.length_toList] at hl
    have hlv := rv.1
    obtain ⟨w', cur', k1, k2, k3⟩ := run_storeCells_gen (P := P) b o e (0, 0) y'.cells.toList 0 arr w g2 (by omega) (fun x _ _ => frozen_none g2 x) h1
    have hsz' : cur'.size = arr.size := by
      rw [← Array.length_toList, k3]; simp only [Array.length_toList, List.length_append, List.length_take, List.length_drop] at *; omega
    have hfrom : (h.at i).from_ (c.off i) = some 0 := by rw [hcs]; rfl
    have hsim : (h.at i).sim (.cells (splice cs o vs)) := by rw [hcs]; exact (splice_len hlt).symm
    have x := upd_ext g1 g2 k2 hsz' hfrom rfl hsim
    refine ⟨w', ?_, upd_wf wf g1 g2 k2 hsz' hfrom rfl hsim ⟨b, cur', e, g1, k2.here, ?_⟩, x⟩
    · simp only [Instr.storeAt, Instr.sureAddr, Sem.run_bind, Sem.run_pure, Result.andThen_ok, storeVar, T.sizeOf hok]
      rw [if_neg (by simp only [Array.length_toList] at hlv; omega)]
      simp only [k1]
    · rw [k3]
      exact splice_rep (g3.mono x) (rv.mono x) _

theorem sim_row_set {T' : Ty} (l : List T'.den) (j : Nat) (y : T'.den) : (AObj.row T' l).sim (.row T' (l.set j y)) := ⟨rfl, by simp⟩

theorem store_row (wf : WF w h c) {t : Nat} (T : TOK P tt) {i n j o : Nat} {T' : Ty} {l : List T'.den} {vs : List V} {a' y' : Value} (ra : Rep w h c (.rptr i n j o) a') (hrow : h.at i = .row T' l) (rv : RepL w h c vs y'.cells.toList) (h1 : Ones y'.cells.toList)
    (hok : tt.ok t = true) (hn : n = T'.sz) (hsz : vs.length = (tt.at t).size) (hj : j < l.length) (hlt : o + vs.length ≤ (T'.cells (l.getD j T'.dflt)).length) {y : T'.den} (hy : T'.dec (splice (T'.cells (l.getD j T'.dflt)) o vs) = some y) :
    ∃ w', (Instr.storeAt t a' y').run P w = .ok () w' ∧ WF w' (h.set i (.row T' (l.set j y))) c ∧ Ext w h c w' (h.set i (.row T' (l.set j y))) c := by
  have hi := Heap.at_live hrow (by simp)
  have ho := wf.obj i hi
  rw [hrow] at ho
  rw [getD_eq hj] at hlt hy
  have hclen := T'.cells_len l[j]
  rcases ho with ⟨_, rfl⟩ | ⟨b, arr, e, fz, g1, g2, g3, g4, g5⟩
  · simp at hj
  · cases ra with
    | rptr hu hv =>
      obtain ⟨a, rfl, hv⟩ := hv
      obtain ⟨b', hb', rfl⟩ := hv T' l hrow hn hj
      rw [g1] at hb'; cases hb'
      have hlv := rv.1
      have hm := Nat.mul_le_mul_right T'.sz hj
      rw [Nat.succ_mul] at hm
      obtain ⟨w', cur', k1, k2, k3⟩ := run_storeCells_gen (P := P) b (c.off i + j * T'.sz + o) e fz y'.cells.toList 0 arr w g2 (by omega) (fun x _ hx => g4 x (by omega)) h1
      have hsz' : cur'.size = arr.size := by
        rw [← Array.length_toList, k3]; simp only [Array.length_toList, List.length_append, List.length_take, List.length_drop] at *; omega
      have hfrom : (h.at i).from_ (c.off i) = some 0 := by rw [hrow]; rfl
      have hsim : (h.at i).sim (.row T' (l.set j y)) := by rw [hrow]; exact sim_row_set l j y
      have x := upd_ext g1 g2 k2 hsz' hfrom rfl hsim
      obtain ⟨fl, fh⟩ := fz
      refine ⟨w', ?_, upd_wf wf g1 g2 k2 hsz' hfrom rfl hsim (.inr ⟨b, cur', e, (fl, fh), g1, k2.here, by rw [hsz']; simpa using g3, fun x hx => ?_, fun n' q z v hz hv' => ?_⟩), x⟩
      · simp only [Instr.storeAt, Instr.sureAddr, Sem.run_bind, Sem.run_pure, Result.andThen_ok, storeVar, T.sizeOf hok]
        rw [if_neg (by simp only [Array.length_toList] at hlv; omega)]
        simp only [k1]
      · have := g4 x (by omega)
        rw [frozen_of g2] at this
        rw [frozen_of k2.here]; exact this
      · have hq : q < T'.sz := by rw [← T'.cells_len z]; exact (List.getElem?_eq_some_iff.1 hv').1
        rw [List.getElem?_set] at hz
        have hget : ∀ p : Nat, cur'[p]? = cur'.toList[p]? := fun p => Array.getElem?_toList.symm
        rw [hget, k3]
        by_cases hjn : j = n'
        · subst hjn
          rw [if_pos rfl, if_pos hj] at hz
          cases hz
          -- the element that is written
          have base : RepL w h c (T'.cells l[j]) ((arr.toList.drop (c.off i + j * T'.sz)).take T'.sz) := by
            refine ⟨by rw [hclen]; simp; omega, fun x v d hv hd => ?_⟩
            obtain ⟨d', p1, p2⟩ := g5 j x l[j] v (List.getElem?_eq_getElem hj) hv
            rw [List.getElem?_take] at hd
            split at hd
            · rw [List.getElem?_drop] at hd
              have e1 : arr[c.off i + j * T'.sz + x]? = some d := by simpa using hd
              rw [p1] at e1; cases e1; exact p2
            · cases hd
          have sp := (dec_rep hy (splice_rep base rv o)).mono x
          have hlen2 := sp.1
          have hq2 : q < (((arr.toList.drop (c.off i + j * T'.sz)).take T'.sz).take o ++ y'.cells.toList ++ ((arr.toList.drop (c.off i + j * T'.sz)).take T'.sz).drop (o + y'.cells.toList.length)).length := by
            rw [← hlen2, T'.cells_len]; exact hq
          refine ⟨_, ?_, sp.2 q v _ hv' (List.getElem?_eq_getElem hq2)⟩
          rw [← List.getElem?_eq_getElem hq2]
          simp only [List.getElem?_append, List.length_append, List.length_take, List.length_drop, List.getElem?_take, List.getElem?_drop, Array.length_toList, Nat.add_zero] at *
          by_cases c1 : q < o
          · have e1 : c.off i + j * T'.sz + q < c.off i + j * T'.sz + o := by omega
            have e2 : c.off i + j * T'.sz + q < min (c.off i + j * T'.sz + o) arr.size := by omega
            have e3 : c.off i + j * T'.sz + q < min (c.off i + j * T'.sz + o) arr.size + y'.cells.size := by omega
            have e4 : q < min o (min T'.sz (arr.size - (c.off i + j * T'.sz))) := by omega
            have e5 : q < min o (min T'.sz (arr.size - (c.off i + j * T'.sz))) + y'.cells.size := by omega
            simp only [e1, e2, e3, e4, e5, c1, hq, if_true]
          · have m1 : min (c.off i + j * T'.sz + o) arr.size = c.off i + j * T'.sz + o := by omega
            have m2 : min o (min T'.sz (arr.size - (c.off i + j * T'.sz))) = o := by omega
            rw [m1, m2]
            by_cases c2 : q < o + y'.cells.size
            · have e1 : c.off i + j * T'.sz + q < c.off i + j * T'.sz + o + y'.cells.size := by omega
              have e2 : ¬ c.off i + j * T'.sz + q < c.off i + j * T'.sz + o := by omega
              have e3 : c.off i + j * T'.sz + q - (c.off i + j * T'.sz + o) = q - o := by omega
              simp only [e1, e2, e3, c1, c2, if_true, if_false]
            · have e1 : ¬ c.off i + j * T'.sz + q < c.off i + j * T'.sz + o + y'.cells.size := by omega
              have e3 : c.off i + j * T'.sz + o + y'.cells.size + (c.off i + j * T'.sz + q - (c.off i + j * T'.sz + o + y'.cells.size)) = c.off i + j * T'.sz + (o + y'.cells.size + (q - (o + y'.cells.size))) := by omega
              have e4 : o + y'.cells.size + (q - (o + y'.cells.size)) < T'.sz := by omega
              simp only [e1, e3, e4, c2, if_true, if_false]
        · rw [if_neg hjn] at hz
          obtain ⟨d, p1, p2⟩ := g5 n' q z v hz hv'
          refine ⟨d, ?_, p2.mono x⟩
          have hn' : n' < l.length := (List.getElem?_eq_some_iff.1 hz).1
          have p1' : arr.toList[c.off i + n' * T'.sz + q]? = some d := by simpa using p1
          simp only [Array.length_toList] at hlv
          simp only [List.getElem?_append, List.length_append, List.length_take, List.getElem?_take, List.getElem?_drop, Array.length_toList, Nat.add_zero]
          rcases Nat.lt_or_ge n' j with hlt' | hge
          · have hm2 := Nat.mul_le_mul_right T'.sz hlt'
            rw [Nat.succ_mul] at hm2
            have e1 : c.off i + n' * T'.sz + q < c.off i + j * T'.sz + o := by omega
            have e2 : c.off i + n' * T'.sz + q < min (c.off i + j * T'.sz + o) arr.size := by omega
            have e3 : c.off i + n' * T'.sz + q < min (c.off i + j * T'.sz + o) arr.size + y'.cells.size := by omega
            simp only [e1, e2, e3, if_true]; exact p1'
          · have hm2 := Nat.mul_le_mul_right T'.sz (show j + 1 ≤ n' by omega)
            rw [Nat.succ_mul] at hm2
            have m1 : min (c.off i + j * T'.sz + o) arr.size = c.off i + j * T'.sz + o := by omega
            have e1 : ¬ c.off i + n' * T'.sz + q < c.off i + j * T'.sz + o + y'.cells.size := by omega
            have e3 : c.off i + j * T'.sz + o + y'.cells.size + (c.off i + n' * T'.sz + q - (c.off i + j * T'.sz + o + y'.cells.size)) = c.off i + n' * T'.sz + q := by omega
            rw [m1]
            simp only [e1, e3, if_false]; exact p1'
end
end Go.Yard
