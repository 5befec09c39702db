/-
  The abstract interpreter, part 29: what is forgotten at a loop's head, and behind a function. Own work.
-/
import Derived.Test.YtcocpfgemdkkfaaAiDraw2
namespace Go.Yard
open Go.RowKit

section
variable {P : Program} {tt : TTab} {w w' : World} {h h' : Heap} {c c' : Cfg} {R : Type}

/-- The first objects stay the first. -/
theorem reach_front (h : Heap) : ∀ (n : Nat) (l rest seen : List Nat), (seen ++ l).Nodup → l.length ≤ n → ∃ t, reach h n (l ++ rest) seen = seen ++ l ++ t
  | n, [], rest, seen, _, _ => by
    have key : ∀ (n : Nat) (todo seen : List Nat), ∃ t, reach h n todo seen = seen ++ t := by
      intro n
      induction n with
      | zero => exact fun _ _ => ⟨[], by simp [reach]⟩
      | succ n ih =>
        intro todo seen
        cases todo with
        | nil => exact ⟨[], by simp [reach]⟩
        | cons i todo =>
          simp only [reach]
          split
          · exact ih _ _
          · obtain ⟨t, ht⟩ := ih (todo ++ (h.at i).ids) (seen ++ [i])
            exact ⟨i :: t, by rw [ht]; simp⟩
    obtain ⟨t, ht⟩ := key n rest seen
    exact ⟨t, by simpa using ht⟩
  | 0, i :: l, _, _, _, hl => by simp at hl
  | n + 1, i :: l, rest, seen, hn, hl => by
    have hi : i ∉ seen := fun hm => by
      rw [List.nodup_append] at hn
      exact hn.2.2 i hm i (by simp) rfl
    obtain ⟨t, ht⟩ := reach_front h n l (rest ++ (h.at i).ids) (seen ++ [i]) (by simpa using hn) (by simpa using hl)
    refine ⟨t, ?_⟩
    simp only [List.cons_append, reach, List.contains_iff_mem, hi, if_false, List.append_assoc] at ht ⊢
    simpa using ht

/-- From a function's beginning: what it was handed is the first of its objects. -/
theorem pick_ext {w0 : World} {h0 : Heap} {c0 : Cfg} (x : Ext w0 h0 c0 w h c) {ord : List Nat} (hf : ∀ i, i < h0.length → ord[i]? = some i) : Ext w0 h0 c0 w (h.pick ord) (c.pick ord c.ext) where
  os := x.os
  tape := x.tape
  output := x.output
  size := x.size
  used := fun i hi => by
    have e := hf i hi.1
    refine ⟨by simpa [Heap.pick] using (List.getElem?_eq_some_iff.1 e).1, ?_⟩
    rw [pick_at, e]
    simp only [ne_eq, ren_free]
    exact (x.used i hi).2
  same := fun i hi hd => by
    have e := hf i hi.1
    rw [pick_at, e] at hd ⊢
    simp only [ne_eq, ren_dead] at hd
    obtain ⟨s1, s2, s3⟩ := x.same i hi hd
    exact ⟨ren_sim_r.2 s1, by simp [Cfg.pick, e, s2], by simp [Cfg.pick, List.getD, e, s3]⟩
  cell := x.cell
  block := x.block
  owns := fun b y hb ho => by
    obtain ⟨i, _, f, g1, g2, g3⟩ := pick_owns ho
    exact x.owns b y hb ⟨i, f, g1, g2, g3⟩
  ext := x.ext
  arr := x.arr

theorem pick_same_wf (wf : WF w h c) {ord : List Nat} (hnd : ord.Nodup) : WF w (h.pick ord) (c.pick ord c.ext) :=
  pick_wf wf hnd (fun _ _ hf => hf.2) wf.extlt fun b x ⟨i, _, f, g1, g2, g3⟩ => wf.disj b x ⟨i, f, g1, g2, g3⟩

theorem pick_same_rep {ord : List Nat} {cs : List V} {ds : List Value} (r : RepL w h c cs ds) : RepL w (h.pick ord) (c.pick ord c.ext) (V.renL (posIn ord) cs) ds :=
  r.ren (pick_ren fun _ _ hf => hf.2)

theorem front_get {m : Nat} {t : List Nat} {i : Nat} (hi : i < m) : (List.range m ++ t)[i]? = some i := by
  rw [List.getElem?_append_left (by simpa using hi), List.getElem?_range hi]

theorem reach_range (h : Heap) {m n : Nat} (hmn : m ≤ n) (rest : List Nat) : (reach h n (List.range m ++ rest) []).Nodup ∧ ∀ i, i < m → (reach h n (List.range m ++ rest) [])[i]? = some i := by
  refine ⟨reach_nodup h _ _ _ (by simp), fun i hi => ?_⟩
  obtain ⟨t, ht⟩ := reach_front h n (List.range m) rest [] (by simpa using List.nodup_range) (by simpa using hmn)
  rw [ht]
  simpa using front_get (t := t) hi

/-- What is reached stays. -/
theorem gc_sound {w0 : World} {h0 : Heap} {c0 : Cfg} {st : St} {a : Act} (sim : Sim w c st a) (x : Ext w0 h0 c0 w st.hp c) (hm : h0.length ≤ 200) : ∃ c', Sim w c' (st.gc h0.length) a ∧ Ext w0 h0 c0 w (st.gc h0.length).hp c' := by
  obtain ⟨h1, h2⟩ := reach_range st.hp (m := h0.length) (n := 256) (by omega) (V.idsL st.fr)
  exact ⟨_, ⟨pick_same_wf sim.wf h1, pick_same_rep sim.fr⟩, pick_ext x h2⟩

theorem normFr_rep {fr : List V} {ds : List Value} (r : RepL w h c fr ds) (live drop : List Nat) : RepL w h c (normFr live drop fr) ds := by
  refine ⟨by simp [normFr, r.1], fun j v d hv hd => ?_⟩
  unfold normFr at hv
  rw [List.getElem?_map, List.getElem?_zipIdx] at hv
  cases e : fr[j]? with
  | none => rw [e] at hv; cases hv
  | some u =>
    rw [e] at hv
    simp at hv
    subst hv
    have ru := r.2 j u d e hd
    split
    · split
      · exact dropTok_rep ru
      · exact ru
    · exact .undef _

theorem ownNil_sound : ∀ (l : List (Nat × Ty)) (st : St) (c : Cfg) (a : Act), Sim w c st a → ∃ c', Sim w c' (ownNil l st) a ∧ Ext w st.hp c w (ownNil l st).hp c'
  | [], st, c, a, sim => ⟨c, sim, .refl _ _ _⟩
  | (d, T) :: l, st, c, a, sim => by
    have key : ∀ (U : Ty), (∀ x, a.tmps.toList[d]? = some x → x = .slice none 0 0) →
        ∃ c', Sim w c' ⟨st.fr.set d (.sl U [] (.own st.hp.length)), st.hp ++ [.tok]⟩ a ∧ Ext w st.hp c w (st.hp ++ [.tok]) c' := by
      intro U hx
      obtain ⟨c', k1, k2, k3⟩ := none_tok (id := st.hp.length) (T := U) (slots_wf sim.wf 1) (by simp) (by rw [at_append_right (Nat.le_refl _)]; simp [Heap.at])
      have e : (st.hp ++ List.replicate 1 AObj.free).set st.hp.length .tok = st.hp ++ [.tok] := by simp
      rw [e] at k1 k2 k3
      have k4 := (slots_ext (w := w) (h := st.hp) (c := c) 1).trans k2
      refine ⟨c', ⟨k1, ?_⟩, k4⟩
      have rf := sim.fr.mono k4
      refine ⟨by simp [rf.1], fun j v x hv hx' => ?_⟩
      rw [List.getElem?_set] at hv
      by_cases hj : d = j
      · subst hj
        rw [if_pos rfl] at hv
        split at hv
        · cases hv
          rw [hx x hx']
          exact k3
        · cases hv
      · rw [if_neg hj] at hv
        exact rf.2 j v x hv hx'
    simp only [ownNil]
    have rd := sim.fr.getD d undef
    split
    · rename_i he
      rw [he] at rd
      obtain ⟨c', s', x'⟩ := key T fun x hx => by
        rw [List.getD, hx] at rd
        cases rd; rfl
      obtain ⟨c2, s2, x2⟩ := ownNil_sound l _ c' a s'
      exact ⟨c2, s2, x'.trans x2⟩
    · rename_i T' l' he
      rw [he] at rd
      have hl : l' = [] := by
        generalize a.tmps.toList.getD d undef = q at rd
        cases rd with
        | sl f hcap hmx hc hr hnil hown =>
          have := (hnil rfl).2
          exact List.eq_nil_of_length_eq_zero (by omega)
      subst hl
      obtain ⟨c', s', x'⟩ := key T' fun x hx => by
        rw [List.getD, hx] at rd
        simp only [Option.getD_some] at rd
        generalize hn : ([] : List T'.den) = nl at rd
        cases rd with
        | sl f hcap hmx hc hr hnil hown =>
          obtain ⟨rfl, rfl⟩ := hnil rfl
          subst hn
          rfl
      obtain ⟨c2, s2, x2⟩ := ownNil_sound l _ c' a s'
      exact ⟨c2, s2, x'.trans x2⟩
    · exact ownNil_sound l st c a sim

theorem put_nil {st : St} {a : Act} {d : Nat} {v : V} {h' : Heap} {c' : Cfg} (sim : Sim w c st a) (he : st.fr.getD d .undef = .nilsl) (k1 : WF w h' c') (k4 : Ext w st.hp c w h' c') (k3 : Rep w h' c' v (.slice none 0 0)) :
    Sim w c' ⟨st.fr.set d v, h'⟩ a := by
  refine ⟨k1, ?_⟩
  have rf := sim.fr.mono k4
  refine ⟨by simp [rf.1], fun j u x hv hx' => ?_⟩
  rw [List.getElem?_set] at hv
  by_cases hj : d = j
  · subst hj
    rw [if_pos rfl] at hv
    split at hv
    · cases hv
      have rd := sim.fr.getD d undef
      rw [he, List.getD, hx'] at rd
      cases rd
      exact k3
    · cases hv
  · rw [if_neg hj] at hv
    exact rf.2 j u x hv hx'

theorem new_row (wf : WF w h c) (T : Ty) : ∃ c', WF w (h ++ [.row T []]) c' ∧ Ext w h c w (h ++ [.row T []]) c' ∧ Rep w (h ++ [.row T []]) c' (.row h.length 0) (.slice none 0 0) := by
  obtain ⟨c', k1, k2, k3⟩ := none_row (id := h.length) (T := T) (slots_wf wf 1) (by simp) (by rw [at_append_right (Nat.le_refl _)]; simp [Heap.at])
  have e : (h ++ List.replicate 1 AObj.free).set h.length (.row T []) = h ++ [.row T []] := by simp
  rw [e] at k1 k2 k3
  exact ⟨c', k1, (slots_ext 1).trans k2, k3⟩

theorem new_cell (wf : WF w h c) (T : Ty) (rw : Bool) : ∃ c', WF w (h ++ [nilOb T rw]) c' ∧ Ext w h c w (h ++ [nilOb T rw]) c' ∧ Rep w (h ++ [nilOb T rw]) c' (nilVal T rw h.length) (.slice none 0 0) := by
  unfold nilOb nilVal
  cases rw with
  | true => exact new_row wf T
  | false =>
    simp only [cond_false]
    obtain ⟨c', k1, k2, k3⟩ := none_tok (id := h.length) (T := T) (slots_wf wf 1) (by simp) (by rw [at_append_right (Nat.le_refl _)]; simp [Heap.at])
    have e : (h ++ List.replicate 1 AObj.free).set h.length .tok = h ++ [.tok] := by simp
    rw [e] at k1 k2 k3
    exact ⟨c', k1, (slots_ext 1).trans k2, k3⟩

theorem rowNil_sound : ∀ (l : List (Nat × Ty)) (st : St) (c : Cfg) (a : Act), Sim w c st a → ∃ c', Sim w c' (rowNil l st) a ∧ Ext w st.hp c w (rowNil l st).hp c'
  | [], st, c, a, sim => ⟨c, sim, .refl _ _ _⟩
  | (d, T) :: l, st, c, a, sim => by
    simp only [rowNil]
    split
    · rename_i he
      obtain ⟨c', k1, k2, k3⟩ := new_row sim.wf T
      obtain ⟨c2, s2, x2⟩ := rowNil_sound l ⟨st.fr.set d (.row st.hp.length 0), st.hp ++ [.row T []]⟩ c' a (put_nil sim he k1 k2 k3)
      exact ⟨c2, s2, k2.trans x2⟩
    · exact rowNil_sound l st c a sim

/-- An object's cells are said in other words. -/
theorem cells_ext {i : Nat} {cs ds : List V} (he : h.at i = .cells cs) (hl : ds.length = cs.length) : Ext w h c w (h.set i (.cells ds)) c where
  os := rfl
  tape := rfl
  output := rfl
  size := Nat.le_refl _
  used := fun j hj => ⟨by simpa using hj.1, by rw [at_set]; split; simp; exact hj.2⟩
  same := fun j hj hd => by
    rw [at_set] at hd ⊢
    split
    · rename_i hc
      obtain ⟨rfl, _⟩ := hc
      rw [he]
      exact ⟨hl.symm, rfl, rfl⟩
    · rename_i hc
      rw [if_neg hc] at hd
      exact ⟨sim_refl (live_of hj.2 hd) (fun _ _ => .inr trivial), rfl, rfl⟩
  cell := fun _ _ _ _ => rfl
  block := fun _ _ _ => rfl
  owns := fun b x _ ho => by
    obtain ⟨j, f, g1, g2, g3⟩ := ho
    rw [at_set] at g2
    split at g2
    · rename_i hc
      obtain ⟨rfl, _⟩ := hc
      exact ⟨i, f, g1, by rw [he]; exact g2, g3⟩
    · exact ⟨j, f, g1, g2, g3⟩
  ext := rfl
  arr := fun b arr e fz hb => ⟨arr, fz, hb, rfl⟩

theorem cells_wf (wf : WF w h c) {i : Nat} {cs ds : List V} (he : h.at i = .cells cs) (hl : ds.length = cs.length) (hob : ObjOK w (h.set i (.cells ds)) c i (.cells ds)) : WF w (h.set i (.cells ds)) c where
  disj := fun b x ho he' => by
    obtain ⟨j, f, g1, g2, g3⟩ := ho
    refine wf.disj b x ?_ he'
    rw [at_set] at g2
    split at g2
    · rename_i hc
      obtain ⟨rfl, _⟩ := hc
      exact ⟨i, f, g1, by rw [he]; exact g2, g3⟩
    · exact ⟨j, f, g1, g2, g3⟩
  extlt := wf.extlt
  obj := fun j hj => by
    rw [at_set]
    split
    · rename_i hc
      obtain ⟨rfl, _⟩ := hc
      exact hob
    · have ho := wf.obj j (by simpa using hj)
      by_cases hv : (h.at j).live
      · exact ho.keep (cells_ext he hl) (fun _ _ => rfl) rfl rfl
      · have h0 : h.at j = .free ∨ h.at j = .dead := by revert hv; cases h.at j <;> simp [AObj.live]
        rcases h0 with h0 | h0 <;> rw [h0] <;> trivial
  inj := fun j k b hj hk h1 h2 => by
    have key : ∀ j, (Heap.at (h.set i (.cells ds)) j).live → (h.at j).live := fun j hj => by
      rw [at_set] at hj
      split at hj
      · rename_i hc
        obtain ⟨rfl, _⟩ := hc
        rw [he]; trivial
      · exact hj
    exact wf.inj j k b (key j hj) (key k hk) h1 h2

theorem cellNil_sound : ∀ (l : List (Nat × Nat × Ty × Bool)) (st : St) (c : Cfg) (a : Act), Sim w c st a → ∃ c', Sim w c' (cellNil l st) a ∧ Ext w st.hp c w (cellNil l st).hp c'
  | [], st, c, a, sim => ⟨c, sim, .refl _ _ _⟩
  | (i, o, T, rw) :: l, st, c, a, sim => by
    simp only [cellNil]
    split
    · rename_i cs hcs
      split
      · rename_i ho
        obtain ⟨c', k1, k2, k3⟩ := new_cell sim.wf T rw
        have hi := Heap.at_live hcs (by simp)
        have hcs' : Heap.at (st.hp ++ [nilOb T rw]) i = .cells cs := by rw [at_append_left hi]; exact hcs
        have e : st.hp.set i (.cells (cs.set o (nilVal T rw st.hp.length))) ++ [nilOb T rw] = (st.hp ++ [nilOb T rw]).set i (.cells (cs.set o (nilVal T rw st.hp.length))) := by
          rw [List.set_append_left _ _ hi]
        rw [e]
        have hl : (cs.set o (nilVal T rw st.hp.length)).length = cs.length := by simp
        have x1 := cells_ext (w := w) (c := c') hcs' hl
        have hob := k1.obj i (by simp; omega)
        rw [hcs'] at hob
        obtain ⟨b, arr, el, g1, g2, g3⟩ := hob
        have w1 := cells_wf k1 hcs' hl (by
          refine ⟨b, arr, el, g1, g2, ?_⟩
          have g3' := g3.mono x1
          refine ⟨by simpa using g3'.1, fun j v d hv hd => ?_⟩
          rw [List.getElem?_set] at hv
          by_cases hj : o = j
          · subst hj
            rw [if_pos rfl] at hv
            split at hv
            · cases hv
              have rd := g3.getD o undef
              rw [ho, List.getD, hd] at rd
              cases rd
              exact k3.mono x1
            · cases hv
          · rw [if_neg hj] at hv
            exact g3'.2 j v d hv hd)
        have x2 := k2.trans x1
        obtain ⟨c2, s2, x3⟩ := cellNil_sound l ⟨st.fr, (st.hp ++ [nilOb T rw]).set i (.cells (cs.set o (nilVal T rw st.hp.length)))⟩ c' a ⟨w1, sim.fr.mono x2⟩
        exact ⟨c2, s2, x2.trans x3⟩
      · exact cellNil_sound l st c a sim
    · exact cellNil_sound l st c a sim

/-- What is done at a loop's head. -/
theorem norm_sound {w0 : World} {h0 : Heap} {c0 : Cfg} {st : St} {a : Act} (sim : Sim w c st a) (x : Ext w0 h0 c0 w st.hp c) (hm : h0.length ≤ 200) (hint : Hint) :
    ∃ c', Sim w c' (norm h0.length hint st) a ∧ Ext w0 h0 c0 w (norm h0.length hint st).hp c' := by
  obtain ⟨c1, s1, x1⟩ := ownNil_sound hint.own ⟨normFr hint.live hint.drop st.fr, st.hp⟩ c a ⟨sim.wf, normFr_rep sim.fr _ _⟩
  obtain ⟨c2, s2, x2⟩ := rowNil_sound hint.rows _ c1 a s1
  obtain ⟨c3, s3, x3⟩ := cellNil_sound hint.cells _ c2 a s2
  exact gc_sound s3 (((x.trans x1).trans x2).trans x3) hm

/-- What is done behind a loop. -/
theorem trim_sound {w0 : World} {h0 : Heap} {c0 : Cfg} {st : St} {a : Act} (sim : Sim w c st a) (x : Ext w0 h0 c0 w st.hp c) (hm : h0.length ≤ 200) (hint : Hint) :
    ∃ c', Sim w c' (trim h0.length hint st) a ∧ Ext w0 h0 c0 w (trim h0.length hint st).hp c' :=
  gc_sound (st := ⟨normFr hint.out [] st.fr, st.hp⟩) ⟨sim.wf, normFr_rep sim.fr _ _⟩ x hm

/-! ### behind a function -/

theorem canonL_rep : ∀ (ts : List Nat) (vs : List V) (ds : List Value), ts.length = ds.length → RepL w h c vs ds → RepL w h c (canonL tt ts vs) ds
  | [], vs, ds, hl, r => by
    have : ds = [] := List.eq_nil_of_length_eq_zero hl.symm
    subst this
    exact .nil
  | t :: ts, [], ds, hl, r => by
    have : ds = [] := List.eq_nil_of_length_eq_zero (by simpa using r.1.symm)
    subst this
    simp at hl
  | t :: ts, v :: vs, [], hl, r => by simp at hl
  | t :: ts, v :: vs, d :: ds, hl, r => .cons (canon_rep r.head) (canonL_rep ts vs ds (by simpa using hl) r.tail)
end
end Go.Yard
