/-
  FleetStale: for every input whose bulk is at most 1048576 the law returns true, and each argument reads behind the call as it read before; part 4 of 9 of the proof: an interpreter of the model's code over typed data, proved sound; the functions that the law reaches, printed as Lean functions and tied; the plain law. Own texts laid one behind the other.
-/
import Derived.ChangeKeysEq
import Derived.Test.YtolnaonmpohciaaDoorFleetStaleB3
set_option linter.unusedSimpArgs false
set_option linter.unnecessarySimpa false
set_option linter.unusedVariables false
set_option linter.unusedSectionVars false
namespace Go.Yard
open Go.RowKit

section
variable {P : Program} {tt : TTab} {w w' : World} {h h' : Heap} {c c' : Cfg} {R : Type}

theorem reach_front (h : Heap) : ∀ (n : Nat) (l rest seen : List Nat), (seen ++ l).Nodup → l.length ≤ n → ∃ t, reach h n (l ++ rest) seen = seen ++ l ++ t
  | n, [], rest, seen, _, _ => by
    have key : ∀ (n : Nat) (todo seen : List Nat), ∃ t, reach h n todo seen = seen ++ t := by
      intro n
      induction n with
      | zero => exact fun _ _ => ⟨[], by simp [reach]⟩
      | succ n ih =>
        intro todo seen
        cases todo with
        | nil => exact ⟨[], by simp [reach]⟩
        | cons i todo =>
          simp only [reach]
          split
          · exact ih _ _
          · obtain ⟨t, ht⟩ := ih (todo ++ (h.at i).ids) (seen ++ [i])
            exact ⟨i :: t, by rw [ht]; simp⟩
    obtain ⟨t, ht⟩ := key n rest seen
    exact ⟨t, by simpa using ht⟩
  | 0, i :: l, _, _, _, hl => by simp at hl
  | n + 1, i :: l, rest, seen, hn, hl => by
    have hi : i ∉ seen := fun hm => by
      rw [List.nodup_append] at hn
      exact hn.2.2 i hm i (by simp) rfl
    obtain ⟨t, ht⟩ := reach_front h n l (rest ++ (h.at i).ids) (seen ++ [i]) (by simpa using hn) (by simpa using hl)
    refine ⟨t, ?_⟩
    simp only [List.cons_append, reach, List.contains_iff_mem, hi, if_false, List.append_assoc] at ht ⊢
    simpa using ht

theorem pick_ext' {w0 : World} {h0 : Heap} {c0 : Cfg} (x : Ext w0 h0 c0 w h c) {ord : List Nat} (hf : ∀ i, i < h0.length → ord[i]? = some i ∨ ∃ j, h.length ≤ j ∧ ord[i]? = some j) : Ext w0 h0 c0 w (h.pick ord) (c.pick ord c.ext) where
  os := x.os
  tape := x.tape
  output := x.output
  size := x.size
  used := fun i hi => by
    rcases hf i hi.1 with e | ⟨j, hj, e⟩
    · refine ⟨by simpa [Heap.pick] using (List.getElem?_eq_some_iff.1 e).1, ?_⟩
      rw [pick_at, e]
      simp only [ne_eq, ren_free]
      exact (x.used i hi).2
    · refine ⟨by simpa [Heap.pick] using (List.getElem?_eq_some_iff.1 e).1, ?_⟩
      rw [pick_at, e]
      simp only [ne_eq, ren_free, at_out hj]
      intro h; cases h
  same := fun i hi hd => by
    rcases hf i hi.1 with e | ⟨j, hj, e⟩
    rotate_left
    · rw [pick_at, e] at hd
      simp only [at_out hj] at hd
      exact (hd rfl).elim
    rw [pick_at, e] at hd ⊢
    simp only [ne_eq, ren_dead] at hd
    obtain ⟨s1, s2, s3⟩ := x.same i hi hd
    exact ⟨ren_sim_r.2 s1, by simp [Cfg.pick, e, s2], by simp [Cfg.pick, List.getD, e, s3]⟩
  cell := x.cell
  block := x.block
  owns := fun b y hb ho => by
    obtain ⟨i, _, f, g1, g2, g3⟩ := pick_owns ho
    exact x.owns b y hb ⟨i, f, g1, g2, g3⟩
  ext := x.ext
  arr := x.arr
theorem pick_ext {w0 : World} {h0 : Heap} {c0 : Cfg} (x : Ext w0 h0 c0 w h c) {ord : List Nat} (hf : ∀ i, i < h0.length → ord[i]? = some i) : Ext w0 h0 c0 w (h.pick ord) (c.pick ord c.ext) := pick_ext' x fun i hi => .inl (hf i hi)

theorem pick_same_wf (wf : WF w h c) {ord : List Nat} (hnd : ord.Nodup) : WF w (h.pick ord) (c.pick ord c.ext) :=
  pick_wf wf hnd (fun _ _ hf => hf.2) wf.extlt (fun b x ⟨i, _, f, g1, g2, g3⟩ => wf.disj b x ⟨i, f, g1, g2, g3⟩)

theorem pick_same_rep {ord : List Nat} {cs : List V} {ds : List Value} (r : RepL w h c cs ds) : RepL w (h.pick ord) (c.pick ord c.ext) (V.renL (posIn ord) cs) ds :=
  r.ren (pick_ren fun _ _ hf => hf.2)

theorem front_get {m : Nat} {t : List Nat} {i : Nat} (hi : i < m) : (List.range m ++ t)[i]? = some i := by
  rw [List.getElem?_append_left (by simpa using hi), List.getElem?_range hi]

theorem reach_range (h : Heap) {m n : Nat} (hmn : m ≤ n) (rest : List Nat) : (reach h n (List.range m ++ rest) []).Nodup ∧ ∀ i, i < m → (reach h n (List.range m ++ rest) [])[i]? = some i := by
  refine ⟨reach_nodup h _ _ _ (by simp), fun i hi => ?_⟩
  obtain ⟨t, ht⟩ := reach_front h n (List.range m) rest [] (by simpa using List.nodup_range) (by simpa using hmn)
  rw [ht]
  simpa using front_get (t := t) hi

theorem mem_mailRows {m i : Nat} (hi : i ∈ mailRows h m) : i < m := by
  unfold mailRows at hi
  rw [List.mem_filter] at hi
  simpa using hi.1
theorem rebirth_spec {m : Nat} {ord : List Nat} (hn : ord.Nodup) (hf : ∀ i, i < m → ord[i]? = some i) : (rebirth h m ord).Nodup ∧ ∀ i, i < m → (rebirth h m ord)[i]? = some i ∨ ∃ j, h.length ≤ j ∧ (rebirth h m ord)[i]? = some j := by
  unfold rebirth
  cases hc : ((mailRows h m).isEmpty || !(ord.all fun i => Nat.blt i h.length)) with
  | true => exact ⟨hn, fun i hi => .inl (hf i hi)⟩
  | false =>
    simp only [Bool.or_eq_false_iff, Bool.not_eq_false', List.all_eq_true] at hc
    have hlt : ∀ i ∈ ord, i < h.length := fun i hi => by simpa using hc.2 i hi
    rw [cond_false]
    refine ⟨?_, fun i hi => ?_⟩
    · rw [List.nodup_append]
      refine ⟨?_, ?_, ?_⟩
      · unfold List.Nodup
        rw [List.pairwise_map]
        refine List.Pairwise.imp_of_mem (fun {a b} ha hb hab => ?_) hn
        have h1 := hlt a ha
        have h2 := hlt b hb
        cases h3 : (mailRows h m).contains a <;> cases h4 : (mailRows h m).contains b <;> simp only [cond_true, cond_false, ne_eq] <;> omega
      · unfold mailRows
        exact List.Nodup.sublist List.filter_sublist List.nodup_range
      · intro a ha b hb hab
        subst hab
        rw [List.mem_map] at ha
        obtain ⟨z, hz, e⟩ := ha
        cases h3 : (mailRows h m).contains z with
        | true =>
          rw [h3, cond_true] at e
          have h4 := mem_mailRows hb
          have h5 := (List.getElem?_eq_some_iff.1 (hf a h4))
          have h6 := hlt a (List.mem_of_getElem? (hf a h4))
          omega
        | false =>
          rw [h3, cond_false] at e
          subst e
          simp [hb] at h3
    · have e := hf i hi
      rw [List.getElem?_append_left (by simpa using (List.getElem?_eq_some_iff.1 e).1), List.getElem?_map, e]
      cases h3 : (mailRows h m).contains i with
      | true => exact .inr ⟨h.length + i, by omega, by simp only [Option.map_some, h3, cond_true]⟩
      | false => exact .inl (by simp only [Option.map_some, h3, cond_false])

theorem gc_sound {w0 : World} {h0 : Heap} {c0 : Cfg} {st : St} {a : Act} (sim : Sim w c st a) (x : Ext w0 h0 c0 w st.hp c) (hm : h0.length ≤ 200) : ∃ c', Sim w c' (st.gc h0.length) a ∧ Ext w0 h0 c0 w (st.gc h0.length).hp c' := by
  obtain ⟨h1, h2⟩ := reach_range st.hp (m := h0.length) (n := 256) (by omega) (V.idsL st.fr)
  exact ⟨_, ⟨pick_same_wf sim.wf h1, pick_same_rep sim.fr⟩, pick_ext x h2⟩

theorem normFr_rep {fr : List V} {ds : List Value} (r : RepL w h c fr ds) (live drop : List Nat) : RepL w h c (normFr live drop fr) ds := by
  refine ⟨by simp [normFr, r.1], fun j v d hv hd => ?_⟩
  unfold normFr at hv
  rw [List.getElem?_map, List.getElem?_zipIdx] at hv
  cases e : fr[j]? with
  | none => rw [e] at hv; cases hv
  | some u =>
    rw [e] at hv
    simp at hv
    subst hv
    have ru := r.2 j u d e hd
    split
    · split
      · exact dropTok_rep ru
      · exact ru
    · exact .undef _

theorem ownNil_sound : ∀ (l : List (Nat × Ty)) (st : St) (c : Cfg) (a : Act), Sim w c st a → ∃ c', Sim w c' (ownNil l st) a ∧ Ext w st.hp c w (ownNil l st).hp c'
  | [], st, c, a, sim => ⟨c, sim, .refl _ _ _⟩
  | (d, T) :: l, st, c, a, sim => by
    have key : ∀ (U : Ty), (∀ x, a.tmps.toList[d]? = some x → x = .slice none 0 0) →
        ∃ c', Sim w c' ⟨st.fr.set d (.sl U [] (.own st.hp.length)), st.hp ++ [.tok]⟩ a ∧ Ext w st.hp c w (st.hp ++ [.tok]) c' := by
      intro U hx
      obtain ⟨c', k1, k2, k3⟩ := none_tok (id := st.hp.length) (T := U) (slots_wf sim.wf 1) (by simp) (by rw [at_append_right (Nat.le_refl _)]; simp [Heap.at])
      have e : (st.hp ++ List.replicate 1 AObj.free).set st.hp.length .tok = st.hp ++ [.tok] := by simp
      rw [e] at k1 k2 k3
      have k4 := (slots_ext (w := w) (h := st.hp) (c := c) 1).trans k2
      refine ⟨c', ⟨k1, ?_⟩, k4⟩
      have rf := sim.fr.mono k4
      refine ⟨by simp [rf.1], fun j v x hv hx' => ?_⟩
      rw [List.getElem?_set] at hv
      by_cases hj : d = j
      · subst hj
        rw [if_pos rfl] at hv
        split at hv
        · cases hv
          rw [hx x hx']
          exact k3
        · cases hv
      · rw [if_neg hj] at hv
        exact rf.2 j v x hv hx'
    simp only [ownNil]
    have rd := sim.fr.getD d undef
    split
    · rename_i he
      rw [he] at rd
      obtain ⟨c', s', x'⟩ := key T fun x hx => by
        rw [List.getD, hx] at rd
        cases rd; rfl
      obtain ⟨c2, s2, x2⟩ := ownNil_sound l _ c' a s'
      exact ⟨c2, s2, x'.trans x2⟩
    · rename_i T' l' he
      rw [he] at rd
      have hl : l' = [] := by
        generalize a.tmps.toList.getD d undef = q at rd
        cases rd with
        | sl f hcap hmx hc hr hnil hown =>
          have := (hnil rfl).2
          exact List.eq_nil_of_length_eq_zero (by omega)
      subst hl
      obtain ⟨c', s', x'⟩ := key T' fun x hx => by
        rw [List.getD, hx] at rd
        simp only [Option.getD_some] at rd
        generalize hn : ([] : List T'.den) = nl at rd
        cases rd with
        | sl f hcap hmx hc hr hnil hown =>
          obtain ⟨rfl, rfl⟩ := hnil rfl
          subst hn
          rfl
      obtain ⟨c2, s2, x2⟩ := ownNil_sound l _ c' a s'
      exact ⟨c2, s2, x'.trans x2⟩
    · exact ownNil_sound l st c a sim

theorem put_nil {st : St} {a : Act} {d : Nat} {v : V} {h' : Heap} {c' : Cfg} (sim : Sim w c st a) (he : st.fr.getD d .undef = .nilsl) (k1 : WF w h' c') (k4 : Ext w st.hp c w h' c') (k3 : Rep w h' c' v (.slice none 0 0)) :
    Sim w c' ⟨st.fr.set d v, h'⟩ a := by
  refine ⟨k1, ?_⟩
  have rf := sim.fr.mono k4
  refine ⟨by simp [rf.1], fun j u x hv hx' => ?_⟩
  rw [List.getElem?_set] at hv
  by_cases hj : d = j
  · subst hj
    rw [if_pos rfl] at hv
    split at hv
    · cases hv
      have rd := sim.fr.getD d undef
      rw [he, List.getD, hx'] at rd
      cases rd
      exact k3
    · cases hv
  · rw [if_neg hj] at hv
    exact rf.2 j u x hv hx'

theorem new_row (wf : WF w h c) (T : Ty) : ∃ c', WF w (h ++ [.row T []]) c' ∧ Ext w h c w (h ++ [.row T []]) c' ∧ Rep w (h ++ [.row T []]) c' (.row h.length 0) (.slice none 0 0) := by
  obtain ⟨c', k1, k2, k3⟩ := none_row (id := h.length) (T := T) (slots_wf wf 1) (by simp) (by rw [at_append_right (Nat.le_refl _)]; simp [Heap.at])
  have e : (h ++ List.replicate 1 AObj.free).set h.length (.row T []) = h ++ [.row T []] := by simp
  rw [e] at k1 k2 k3
  exact ⟨c', k1, (slots_ext 1).trans k2, k3⟩

theorem new_cell (wf : WF w h c) (T : Ty) (rw : Bool) : ∃ c', WF w (h ++ [nilOb T rw]) c' ∧ Ext w h c w (h ++ [nilOb T rw]) c' ∧ Rep w (h ++ [nilOb T rw]) c' (nilVal T rw h.length) (.slice none 0 0) := by
  unfold nilOb nilVal
  cases rw with
  | true => exact new_row wf T
  | false =>
    simp only [cond_false]
    obtain ⟨c', k1, k2, k3⟩ := none_tok (id := h.length) (T := T) (slots_wf wf 1) (by simp) (by rw [at_append_right (Nat.le_refl _)]; simp [Heap.at])
    have e : (h ++ List.replicate 1 AObj.free).set h.length .tok = h ++ [.tok] := by simp
    rw [e] at k1 k2 k3
    exact ⟨c', k1, (slots_ext 1).trans k2, k3⟩

theorem rowNil_sound : ∀ (l : List (Nat × Ty)) (st : St) (c : Cfg) (a : Act), Sim w c st a → ∃ c', Sim w c' (rowNil l st) a ∧ Ext w st.hp c w (rowNil l st).hp c'
  | [], st, c, a, sim => ⟨c, sim, .refl _ _ _⟩
  | (d, T) :: l, st, c, a, sim => by
    simp only [rowNil]
    split
    · rename_i he
      obtain ⟨c', k1, k2, k3⟩ := new_row sim.wf T
      obtain ⟨c2, s2, x2⟩ := rowNil_sound l ⟨st.fr.set d (.row st.hp.length 0), st.hp ++ [.row T []]⟩ c' a (put_nil sim he k1 k2 k3)
      exact ⟨c2, s2, k2.trans x2⟩
    · exact rowNil_sound l st c a sim

theorem cells_ext {i : Nat} {cs ds : List V} (he : h.at i = .cells cs) (hl : ds.length = cs.length) : Ext w h c w (h.set i (.cells ds)) c where
  os := rfl
  tape := rfl
  output := rfl
  size := Nat.le_refl _
  used := fun j hj => ⟨by simpa using hj.1, by rw [at_set]; split; simp; exact hj.2⟩
  same := fun j hj hd => by
    rw [at_set] at hd ⊢
    split
    · rename_i hc
      obtain ⟨rfl, _⟩ := hc
      rw [he]
      exact ⟨hl.symm, rfl, rfl⟩
    · rename_i hc
      rw [if_neg hc] at hd
      exact ⟨sim_refl (live_of hj.2 hd) (fun _ _ _ => .inr trivial), rfl, rfl⟩
  cell := fun _ _ _ _ => rfl
  block := fun _ _ _ => rfl
  owns := fun b x _ ho => by
    obtain ⟨j, f, g1, g2, g3⟩ := ho
    rw [at_set] at g2
    split at g2
    · rename_i hc
      obtain ⟨rfl, _⟩ := hc
      exact ⟨i, f, g1, by rw [he]; exact g2, g3⟩
    · exact ⟨j, f, g1, g2, g3⟩
  ext := rfl
  arr := fun b arr e fz hb => ⟨arr, fz, hb, rfl⟩

theorem cells_wf (wf : WF w h c) {i : Nat} {cs ds : List V} (he : h.at i = .cells cs) (hl : ds.length = cs.length) (hob : ObjOK w (h.set i (.cells ds)) c i (.cells ds)) : WF w (h.set i (.cells ds)) c where
  lay := wf.lay_ext (cells_ext he hl)
  disj := fun b x ho he' => by
    obtain ⟨j, f, g1, g2, g3⟩ := ho
    refine wf.disj b x ?_ he'
    rw [at_set] at g2
    split at g2
    · rename_i hc
      obtain ⟨rfl, _⟩ := hc
      exact ⟨i, f, g1, by rw [he]; exact g2, g3⟩
    · exact ⟨j, f, g1, g2, g3⟩
  extlt := wf.extlt
  obj := fun j hj => by
    rw [at_set]
    split
    · rename_i hc
      obtain ⟨rfl, _⟩ := hc
      exact hob
    · have ho := wf.obj j (by simpa using hj)
      by_cases hv : (h.at j).live
      · exact ho.keep (cells_ext he hl) (fun _ _ => rfl) rfl rfl
      · have h0 : h.at j = .free ∨ h.at j = .dead := by revert hv; cases h.at j <;> simp [AObj.live]
        rcases h0 with h0 | h0 <;> rw [h0] <;> trivial
  inj := fun j k b hj hk h1 h2 => by
    have key : ∀ j, (Heap.at (h.set i (.cells ds)) j).live → (h.at j).live := fun j hj => by
      rw [at_set] at hj
      split at hj
      · rename_i hc
        obtain ⟨rfl, _⟩ := hc
        rw [he]; trivial
      · exact hj
    exact wf.inj j k b (key j hj) (key k hk) h1 h2

theorem turn_ext {i : Nat} {o' : AObj} (hf : ∀ f, (h.at i).from_ f = some 0) (hf' : ∀ f, o'.from_ f = some 0) (hsim : (h.at i).sim o') (hne : o' ≠ .free) : Ext w h c w (h.set i o') c where
  os := rfl
  tape := rfl
  output := rfl
  size := Nat.le_refl _
  used := fun j hj => ⟨by simpa using hj.1, by rw [at_set]; split; exact hne; exact hj.2⟩
  same := fun j hj hd => by
    rw [at_set] at hd ⊢
    split
    · rename_i hc
      obtain ⟨rfl, _⟩ := hc
      exact ⟨hsim, rfl, rfl⟩
    · rename_i hc
      rw [if_neg hc] at hd
      exact ⟨sim_refl (live_of hj.2 hd) (fun _ _ _ => .inr trivial), rfl, rfl⟩
  cell := fun _ _ _ _ => rfl
  block := fun _ _ _ => rfl
  owns := fun b x _ ho => by
    obtain ⟨j, f, g1, g2, g3⟩ := ho
    rw [at_set] at g2
    split at g2
    · rename_i hc
      obtain ⟨rfl, _⟩ := hc
      rw [hf'] at g2
      cases g2
      exact ⟨i, 0, g1, hf _, g3⟩
    · exact ⟨j, f, g1, g2, g3⟩
  ext := rfl
  arr := fun b arr e fz hb => ⟨arr, fz, hb, rfl⟩

theorem turn_wf (wf : WF w h c) {i : Nat} {o' : AObj} (hf : ∀ f, (h.at i).from_ f = some 0) (hf' : ∀ f, o'.from_ f = some 0) (hsim : (h.at i).sim o') (hne : o' ≠ .free) (hob : ObjOK w (h.set i o') c i o') : WF w (h.set i o') c where
  lay := wf.lay_ext (turn_ext hf hf' hsim hne)
  disj := fun b x ho he' => by
    obtain ⟨j, f, g1, g2, g3⟩ := ho
    refine wf.disj b x ?_ he'
    rw [at_set] at g2
    split at g2
    · rename_i hc
      obtain ⟨rfl, _⟩ := hc
      rw [hf'] at g2
      cases g2
      exact ⟨i, 0, g1, hf _, g3⟩
    · exact ⟨j, f, g1, g2, g3⟩
  extlt := wf.extlt
  obj := fun j hj => by
    rw [at_set]
    split
    · rename_i hc
      obtain ⟨rfl, _⟩ := hc
      exact hob
    · have ho := wf.obj j (by simpa using hj)
      by_cases hv : (h.at j).live
      · exact ho.keep (turn_ext hf hf' hsim hne) (fun _ _ => rfl) rfl rfl
      · have h0 : h.at j = .free ∨ h.at j = .dead := by revert hv; cases h.at j <;> simp [AObj.live]
        rcases h0 with h0 | h0 <;> rw [h0] <;> trivial
  inj := fun j k b hj hk h1 h2 => by
    have key : ∀ j, (Heap.at (h.set i o') j).live → (h.at j).live := fun j hj => by
      rw [at_set] at hj
      split at hj
      · rename_i hc
        obtain ⟨rfl, _⟩ := hc
        exact from_live (hf 0)
      · exact hj
    exact wf.inj j k b (key j hj) (key k hk) h1 h2

theorem cellNil_sound : ∀ (l : List (Nat × Nat × Ty × Bool)) (st : St) (c : Cfg) (a : Act), Sim w c st a → ∃ c', Sim w c' (cellNil l st) a ∧ Ext w st.hp c w (cellNil l st).hp c'
  | [], st, c, a, sim => ⟨c, sim, .refl _ _ _⟩
  | (i, o, T, rw) :: l, st, c, a, sim => by
    simp only [cellNil]
    split
    · rename_i cs hcs
      split
      · rename_i ho
        obtain ⟨c', k1, k2, k3⟩ := new_cell sim.wf T rw
        have hi := Heap.at_live hcs (by simp)
        have hcs' : Heap.at (st.hp ++ [nilOb T rw]) i = .cells cs := by rw [at_append_left hi]; exact hcs
        have e : st.hp.set i (.cells (cs.set o (nilVal T rw st.hp.length))) ++ [nilOb T rw] = (st.hp ++ [nilOb T rw]).set i (.cells (cs.set o (nilVal T rw st.hp.length))) := by
          rw [List.set_append_left _ _ hi]
        rw [e]
        have hl : (cs.set o (nilVal T rw st.hp.length)).length = cs.length := by simp
        have x1 := cells_ext (w := w) (c := c') hcs' hl
        have hob := k1.obj i (by simp; omega)
        rw [hcs'] at hob
        obtain ⟨b, arr, el, g1, g2, g3⟩ := hob
        have w1 := cells_wf k1 hcs' hl (by
          refine ⟨b, arr, el, g1, g2, ?_⟩
          have g3' := g3.mono x1
          refine ⟨by simpa using g3'.1, fun j v d hv hd => ?_⟩
          rw [List.getElem?_set] at hv
          by_cases hj : o = j
          · subst hj
            rw [if_pos rfl] at hv
            split at hv
            · cases hv
              have rd := g3.getD o undef
              rw [ho, List.getD, hd] at rd
              cases rd
              exact k3.mono x1
            · cases hv
          · rw [if_neg hj] at hv
            exact g3'.2 j v d hv hd)
        have x2 := k2.trans x1
        obtain ⟨c2, s2, x3⟩ := cellNil_sound l ⟨st.fr, (st.hp ++ [nilOb T rw]).set i (.cells (cs.set o (nilVal T rw st.hp.length)))⟩ c' a ⟨w1, sim.fr.mono x2⟩
        exact ⟨c2, s2, x2.trans x3⟩
      · exact cellNil_sound l st c a sim
    · rename_i v hcs
      split
      · obtain ⟨c', k1, k2, k3⟩ := new_cell sim.wf T rw
        have hi := Heap.at_live hcs (by simp)
        have hcs' : Heap.at (st.hp ++ [nilOb T rw]) i = .bld .nilsl := by rw [at_append_left hi]; exact hcs
        have e : st.hp.set i (.bld (nilVal T rw st.hp.length)) ++ [nilOb T rw] = (st.hp ++ [nilOb T rw]).set i (.bld (nilVal T rw st.hp.length)) := by
          rw [List.set_append_left _ _ hi]
        rw [e]
        have hf : ∀ f, (Heap.at (st.hp ++ [nilOb T rw]) i).from_ f = some 0 := fun f => by rw [hcs']; rfl
        have hsim : (Heap.at (st.hp ++ [nilOb T rw]) i).sim (.bld (nilVal T rw st.hp.length)) := by rw [hcs']; trivial
        have x1 := turn_ext (w := w) (c := c') hf (o' := .bld (nilVal T rw st.hp.length)) (fun _ => rfl) hsim (by simp)
        have hob := k1.obj i (by simp; omega)
        rw [hcs'] at hob
        obtain ⟨b, p, d, g1, g2, g3, g4⟩ := hob
        have w1 := turn_wf k1 hf (o' := .bld (nilVal T rw st.hp.length)) (fun _ => rfl) hsim (by simp) (by
          cases g4
          exact ⟨b, p, _, g1, g2, g3, k3.mono x1⟩)
        have x2 := k2.trans x1
        obtain ⟨c2, s2, x3⟩ := cellNil_sound l ⟨st.fr, (st.hp ++ [nilOb T rw]).set i (.bld (nilVal T rw st.hp.length))⟩ c' a ⟨w1, sim.fr.mono x2⟩
        exact ⟨c2, s2, x2.trans x3⟩
      · exact cellNil_sound l st c a sim
    · exact cellNil_sound l st c a sim

theorem norm_sound {w0 : World} {h0 : Heap} {c0 : Cfg} {st : St} {a : Act} (sim : Sim w c st a) (x : Ext w0 h0 c0 w st.hp c) (hm : h0.length ≤ 200) (hint : Hint) :
    ∃ c', Sim w c' (norm h0.length hint st) a ∧ Ext w0 h0 c0 w (norm h0.length hint st).hp c' := by
  obtain ⟨c, sim, x⟩ : ∃ c', Sim w c' (preGc h0.length hint ⟨normFr hint.live hint.drop st.fr, st.hp⟩) a ∧ Ext w0 h0 c0 w (preGc h0.length hint ⟨normFr hint.live hint.drop st.fr, st.hp⟩).hp c' := by
    unfold preGc
    split
    · exact ⟨c, ⟨sim.wf, normFr_rep sim.fr _ _⟩, x⟩
    · exact gc_sound (st := ⟨normFr hint.live hint.drop st.fr, st.hp⟩) ⟨sim.wf, normFr_rep sim.fr _ _⟩ x hm
  obtain ⟨c1, s1, x1⟩ := ownNil_sound hint.own _ c a sim
  obtain ⟨c2, s2, x2⟩ := rowNil_sound hint.rows _ c1 a s1
  obtain ⟨c3, s3, x3⟩ := cellNil_sound hint.cells _ c2 a s2
  exact gc_sound s3 (((x.trans x1).trans x2).trans x3) hm

theorem trim_sound {w0 : World} {h0 : Heap} {c0 : Cfg} {st : St} {a : Act} (sim : Sim w c st a) (x : Ext w0 h0 c0 w st.hp c) (hm : h0.length ≤ 200) (hint : Hint) :
    ∃ c', Sim w c' (trim h0.length hint st) a ∧ Ext w0 h0 c0 w (trim h0.length hint st).hp c' :=
  gc_sound (st := ⟨normFr hint.out [] st.fr, st.hp⟩) ⟨sim.wf, normFr_rep sim.fr _ _⟩ x hm


theorem canonL_rep : ∀ (ts : List Nat) (vs : List V) (ds : List Value), ts.length = ds.length → RepL w h c vs ds → RepL w h c (canonL tt ts vs) ds
  | [], vs, ds, hl, r => by
    have : ds = [] := List.eq_nil_of_length_eq_zero hl.symm
    subst this
    exact .nil
  | t :: ts, [], ds, hl, r => by
    have : ds = [] := List.eq_nil_of_length_eq_zero (by simpa using r.1.symm)
    subst this
    simp at hl
  | t :: ts, v :: vs, [], hl, r => by simp at hl
  | t :: ts, v :: vs, d :: ds, hl, r => .cons (canon_rep r.head) (canonL_rep ts vs ds (by simpa using hl) r.tail)
end

section
variable {P : Program} {tt : TTab} {R : Type}

def mergeS (fr : List V) (log : List (Nat × V)) : List V := log.foldr (fun x f => f.set x.1 x.2) fr
theorem mergeS_len (fr : List V) : ∀ log : List (Nat × V), (mergeS fr log).length = fr.length
  | [] => rfl
  | x :: log => by simp [mergeS]; exact mergeS_len fr log

theorem beqF (a b : Nat) : Nat.beq a b = decide (a = b) := by
  cases hb : Nat.beq a b with
  | true => simp [Nat.eq_of_beq_eq_true hb]
  | false => simp [Nat.ne_of_beq_eq_false hb]

theorem look_eq (fr : List V) (t : Nat) (d : V) (hd : fr.getD t .undef = d) : ∀ log : List (Nat × V), (∀ x ∈ log, x.1 < fr.length) → lookF log t d = (mergeS fr log).getD t .undef
  | [], _ => hd.symm
  | x :: log, h => by
    have ih := look_eq fr t d hd log fun y hy => h y (by simp [hy])
    have hx := h x (by simp)
    have hl := mergeS_len fr log
    have e : mergeS fr (x :: log) = (mergeS fr log).set x.1 x.2 := rfl
    have e2 : lookF (x :: log) t d = cond (Nat.beq x.1 t) x.2 (lookF log t d) := rfl
    rw [e, e2, beqF, ih]
    by_cases hxt : x.1 = t
    · subst hxt
      simp [List.getD, List.getElem?_set_self, hl, hx]
    · simp [hxt, List.getD, List.getElem?_set_ne hxt]

theorem lookC_eq {β : Type} (t : Nat) (d : V) (k : V → β) : ∀ log : List (Nat × V), lookC log t d k = k (lookF log t d)
  | [] => rfl
  | x :: log => by
    have ih := lookC_eq t d k log
    have e1 : lookC (x :: log) t d k = cond (Nat.beq x.1 t) (k x.2) (lookC log t d k) := rfl
    have e2 : lookF (x :: log) t d = cond (Nat.beq x.1 t) x.2 (lookF log t d) := rfl
    rw [e1, e2, ih]
    cases Nat.beq x.1 t <;> rfl

noncomputable def mergeFrom (log : List (Nat × V)) : Nat → List V → List V
  | _, [] => []
  | i, v :: r => lookF log i v :: mergeFrom log (i + 1) r
theorem mergeC_from {β : Type} (log : List (Nat × V)) : ∀ (fr : List V) (i : Nat) (k : List V → β),
    List.rec (motive := fun _ => Nat → (List V → β) → β) (fun _ k => k []) (fun v _ ih i k => lookC log i v fun v' => ih (i + 1) fun r => k (v' :: r)) fr i k = k (mergeFrom log i fr)
  | [], _, _ => rfl
  | v :: fr, i, k => by
    show lookC log i v (fun v' => List.rec (motive := fun _ => Nat → (List V → β) → β) (fun _ k => k []) (fun v _ ih i k => lookC log i v fun v' => ih (i + 1) fun r => k (v' :: r)) fr (i + 1) fun r => k (v' :: r)) = _
    rw [lookC_eq, mergeC_from log fr (i + 1)]
    rfl
theorem mergeFrom_get (log : List (Nat × V)) : ∀ (fr : List V) (i j : Nat), (mergeFrom log i fr)[j]? = (fr[j]?).map fun v => lookF log (i + j) v
  | [], _, _ => by simp [mergeFrom]
  | v :: fr, i, 0 => by simp [mergeFrom]
  | v :: fr, i, j + 1 => by
    simp only [mergeFrom, List.getElem?_cons_succ]
    rw [mergeFrom_get log fr (i + 1) j]
    congr 1
    funext v
    congr 1
    omega
theorem mergeC_eq {β : Type} (fr : List V) (log : List (Nat × V)) (hl : ∀ x ∈ log, x.1 < fr.length) (k : List V → β) : mergeC log fr k = k (mergeS fr log) := by
  have h1 : mergeC log fr k = k (mergeFrom log 0 fr) := mergeC_from log fr 0 k
  rw [h1]
  congr 1
  apply List.ext_getElem?
  intro j
  rw [mergeFrom_get, Nat.zero_add]
  cases hj : fr[j]? with
  | none =>
    have : (mergeS fr log)[j]? = none := by
      rw [List.getElem?_eq_none_iff, mergeS_len]
      exact List.getElem?_eq_none_iff.1 hj
    rw [this]; rfl
  | some v =>
    have hlt : j < (mergeS fr log).length := by rw [mergeS_len]; exact (List.getElem?_eq_some_iff.1 hj).1
    have h2 := look_eq fr j v (by simp [List.getD, hj]) log hl
    rw [Option.map_some, h2]
    simp [List.getD, List.getElem?_eq_getElem hlt]

theorem evF_eq (fr : List V) (log : List (Nat × V)) (hl : ∀ x ∈ log, x.1 < fr.length) : evF fr log = ev (mergeS fr log) := by
  funext x
  cases x with
  | tmp t => exact look_eq fr t _ rfl log hl
  | _ => rfl

theorem push_eq (fr : List V) (log : List (Nat × V)) (dst : Option Nat) (v : V) : mergeS fr (pushF fr.length log dst v) = putF (mergeS fr log) dst v := by
  cases dst with
  | none => rfl
  | some d =>
    unfold pushF putF
    simp only
    cases h : Nat.blt d fr.length with
    | true => rfl
    | false =>
      have : ¬ d < fr.length := by
        intro h2
        have h3 : Nat.blt d fr.length = true := by simpa using h2
        rw [h3] at h
        cases h
      simp only [cond_false]
      rw [List.set_eq_of_length_le (by rw [mergeS_len]; omega)]
theorem push_ok {fr : List V} {log : List (Nat × V)} (hl : ∀ x ∈ log, x.1 < fr.length) (dst : Option Nat) (v : V) : ∀ x ∈ pushF fr.length log dst v, x.1 < fr.length := by
  cases dst with
  | none => exact hl
  | some d =>
    unfold pushF
    simp only
    cases h : Nat.blt d fr.length with
    | true =>
      intro x hx
      rcases List.mem_cons.1 hx with rfl | hx
      · simpa using h
      · exact hl x hx
    | false => exact hl

theorem stepF_eq {E : Env R} {drawn : Option Nat} {id : Nat} {o : Oper} {st : St} {k : St → Option R} : stepK tt E drawn id o st k = stepF tt E drawn id o (ev st.fr) st.hp fun v h => k ⟨putF st.fr o.dst v, h⟩ := by
  unfold stepK stepF
  cases opCls tt o.op <;> rfl

theorem guardF_eq {all : List Oper} {o : Oper} {fr : List V} {log : List (Nat × V)} {hp : Heap} (hl : ∀ x ∈ log, x.1 < fr.length) {run skip : St → Option R} {runF skipF : List (Nat × V) → Option R}
    (hr : ∀ log, (∀ x ∈ log, x.1 < fr.length) → runF log = run ⟨mergeS fr log, hp⟩) (hs : ∀ log, (∀ x ∈ log, x.1 < fr.length) → skipF log = skip ⟨mergeS fr log, hp⟩) :
    guardF all o fr log runF skipF = guardK all o ⟨mergeS fr log, hp⟩ run skip := by
  unfold guardF guardK
  cases o.guard with
  | none => exact hr log hl
  | some jw =>
    obtain ⟨j, want⟩ := jw
    simp only
    cases (all[j]?).bind (·.dst) with
    | none => rfl
    | some d =>
      simp only
      rw [look_eq fr d _ rfl log hl]
      cases hb : (mergeS fr log).getD d .undef with
      | bool b =>
        have hd : d < fr.length := by
          rcases Nat.lt_or_ge d fr.length with h | h
          · exact h
          · rw [← mergeS_len fr log] at h
            simp [List.getD, List.getElem?_eq_none h] at hb
        have h2 : ∀ v : V, ∀ x ∈ (d, v) :: log, x.1 < fr.length := fun v x hx => by
          rcases List.mem_cons.1 hx with rfl | hx
          · exact hd
          · exact hl x hx
        simp only
        rw [hr _ (h2 _), hs _ (h2 _), hr _ (h2 _), hs _ (h2 _)]
        rfl
      | tuple vs =>
        cases vs with
        | nil => exact hs log hl
        | cons _ _ => rfl
      | _ => rfl

theorem opsF_eq {E : Env R} {drawn : Option Nat} {all : List Oper} {fr : List V} : ∀ (l : List Oper) (id : Nat) (log : List (Nat × V)) (hp : Heap) (k : St → Option R), (∀ x ∈ log, x.1 < fr.length) →
    opsF tt E drawn all fr.length fr l id log hp k = opsK tt E drawn all l id ⟨mergeS fr log, hp⟩ k
  | [], _, log, hp, k, hl => by
    simp only [opsF, opsK]
    rw [mergeC_eq fr log hl, forceL_eq]
  | o :: l, id, log, hp, k, hl => by
    simp only [opsF, opsK, forceSt_eq]
    refine guardF_eq hl (fun log hl => ?_) fun log hl => ?_
    · rw [stepF_eq, evF_eq fr log hl]
      congr 1
      funext v h
      rw [forceL_eq, opsF_eq l _ _ _ _ (push_ok hl o.dst v), push_eq]
    · rw [opsF_eq l _ _ _ _ (push_ok hl o.dst _), push_eq]

theorem regionF_eq {E : Env R} {ops : List Oper} {draw : Bool} {st : St} {k : St → Option R} : regionF tt E ops draw st k = regionK tt E ops draw st k := by
  unfold regionF regionK
  simp only
  have h := fun (dr : Option Nat) (hp : Heap) => opsF_eq (tt := tt) (E := E) (drawn := dr) (all := ops) (fr := st.fr) ops st.hp.length [] hp k (by simp)
  rw [h, h]
  rfl
end

section
variable {P : Program} {tt : TTab} {w w' : World} {h h' : Heap} {c c' : Cfg} {R : Type}

def Ex.out : Ex → Exit
  | .normal => .normal
  | .exit id => .exit id
  | .goto l => .goto l
  | .ret => .ret

theorem anyT_some {a b : Option R} {r : R} (h : anyT a b = some r) : a = some r ∧ b = some r := by
  unfold anyT at h
  split at h
  · rename_i e; exact ⟨h, e ▸ h⟩
  · cases h

theorem wp_rounds {b0 : Code} {Q : Exit → Act → World → Prop} (I : Nat → Act → World → Prop) (h0 : ∀ a w, ¬ I 0 a w) (round : ∀ n a w, I (n + 1) a w → b0.wp P (Exit.then (I n) Q) a w) {n : Nat} {a : Act} {w : World} (hI : I n a w) :
    (Code.loop b0).wp P Q a w := by
  intro b k cs
  have key : ∀ n a w, I n a w → ∃ e a' w', Q e a' w' ∧ Arrives P (lone (b.at a (.code b0 :: .inLoop b0 :: k)) cs w) b k cs e a' w' := by
    intro n
    induction n with
    | zero => exact fun a w h => (h0 a w h).elim
    | succ n ih =>
      intro a w hI
      obtain ⟨e, a1, w1, hq, harr⟩ := round n a w hI b (.inLoop b0 :: k) cs
      cases e with
      | normal =>
        obtain ⟨e2, a2, w2, hq2, harr2⟩ := ih a1 w1 hq
        exact ⟨e2, a2, w2, hq2, .of_steps (Steps.trans harr (.one step_inLoop)) harr2⟩
      | exit id => exact ⟨_, a1, w1, hq, .pass (x := .inLoop b0) rfl (fun _ _ => .inl (by simp)) harr⟩
      | goto l => exact ⟨_, a1, w1, hq, .pass (x := .inLoop b0) rfl (fun _ _ => .inl (by simp)) harr⟩
      | ret => exact ⟨_, a1, w1, hq, .pass (x := .inLoop b0) rfl (fun _ _ => .inl (by simp)) harr⟩
      | panic ch => exact ⟨_, a1, w1, hq, .pass (x := .inLoop b0) rfl (fun _ _ => .inl (by simp)) harr⟩
      | outgrown => exact ⟨_, a1, w1, hq, .pass (x := .inLoop b0) rfl (fun _ _ => .inl (by simp)) harr⟩
  obtain ⟨e, a', w', hq, harr⟩ := key n a w hI
  exact ⟨e, a', w', hq, .of_steps (.one step_loop) harr⟩

def LoopOk (tt : TTab) (E : Env R) (L : Nat → Option (Hint × LSpec R)) (m : Nat) (a : Code) : Prop :=
  ∀ hint ls, L (keyOf a) = some (hint, ls) → ∀ st (K : Ex → St → Option R) r, ls st K = some r → ∃ n, loopN (interp tt E L m a) (norm m hint) n st (fun e st => K e (trim m hint st)) = some r

def loopsOf : Code → List Code
  | .seq a b => loopsOf a ++ loopsOf b
  | .cond _ a b => loopsOf a ++ loopsOf b
  | .block _ a => loopsOf a
  | .loop a => a :: loopsOf a
  | _ => []

theorem iterK_eq (body : LSpec R) : ∀ n st K, iterK body n st K = loopN body id n st K
  | 0, _, _ => rfl
  | n + 1, st, K => by
    simp only [iterK, loopN]
    congr 1
    funext e st'
    cases e <;> first | rfl | exact iterK_eq body n st' K

section
variable {w0 : World} {h0 : Heap} {c0 : Cfg} {D : List Deferred}

structure At (w0 : World) (h0 : Heap) (c0 : Cfg) (D : List Deferred) (w : World) (st : St) (a : Act) (c : Cfg) : Prop where
  sim : Sim w c st a
  ext : Ext w0 h0 c0 w st.hp c
  defers : a.defers = D

def Ends (w0 : World) (h0 : Heap) (c0 : Cfg) (D : List Deferred) (K : Ex → St → Option R) (r : R) (Q : Exit → Act → World → Prop) : Prop :=
  ∀ e st a w c, At w0 h0 c0 D w st a c → K e st = some r → Q e.out a w

theorem interp_sound (T : TOK P tt) (hm : P.follows .mixedOrders = true) {E : Env R} (hE : EOk P E) {L : Nat → Option (Hint × LSpec R)} (hlen : h0.length ≤ 200) {r : R} : ∀ (code : Code), (∀ a ∈ loopsOf code, LoopOk tt E L h0.length a) →
    ∀ (Q : Exit → Act → World → Prop) (K : Ex → St → Option R) (st : St) (a : Act) (w : World) (c : Cfg), At w0 h0 c0 D w st a c → interp tt E L h0.length code st K = some r → Ends w0 h0 c0 D K r Q → code.wp P Q a w
  | .skip, _, Q, K, st, a, w, c, at_, hk, he => wp_skip (he .normal st a w c at_ hk)
  | .region id ops draw, _, Q, K, st, a, w, c, at_, hk, he => by
    simp only [interp, regionF_eq] at hk
    have go : Goes w c st a (fun st' => K .normal st') r (Q .normal) := fun a' w' st' c' s x d k => he .normal st' a' w' c' ⟨s, at_.ext.trans x, d.trans at_.defers⟩ k
    cases draw with
    | true => exact draw_sound T hm hE hk at_.sim go
    | false => exact region_sound T hE hk at_.sim go
  | .seq x y, hl, Q, K, st, a, w, c, at_, hk, he => by
    simp only [interp] at hk
    refine wp_seq (interp_sound T hm hE hlen x (fun b hb => hl b (by simp [loopsOf, hb])) _ _ st a w c at_ hk fun e st' a' w' c' at' hk' => ?_)
    cases e with
    | normal => exact interp_sound T hm hE hlen y (fun b hb => hl b (by simp [loopsOf, hb])) Q K st' a' w' c' at' hk' he
    | exit i => exact he (.exit i) st' a' w' c' at' hk'
    | goto l => exact he (.goto l) st' a' w' c' at' hk'
    | ret => exact he .ret st' a' w' c' at' hk'
  | .cond cnd x y, hl, Q, K, st, a, w, c, at_, hk, he => by
    simp only [interp] at hk
    split at hk <;> try (first | cases hk)
    · rename_i t ht
      have rc := ev_rep at_.sim.fr cnd
      rw [ht] at rc
      generalize hv : a.eval cnd = v at rc
      cases rc
      refine wp_cond hv ?_
      cases t with
      | true => exact interp_sound T hm hE hlen x (fun b hb => hl b (by simp [loopsOf, hb])) Q K st a w c at_ hk he
      | false => exact interp_sound T hm hE hlen y (fun b hb => hl b (by simp [loopsOf, hb])) Q K st a w c at_ hk he
    · rename_i ht
      have rc := ev_rep at_.sim.fr cnd
      rw [ht] at rc
      generalize hv : a.eval cnd = v at rc
      cases rc with
      | anyb t =>
        refine wp_cond hv ?_
        obtain ⟨h1, h2⟩ := anyT_some hk
        cases t with
        | true => exact interp_sound T hm hE hlen x (fun b hb => hl b (by simp [loopsOf, hb])) Q K st a w c at_ h1 he
        | false => exact interp_sound T hm hE hlen y (fun b hb => hl b (by simp [loopsOf, hb])) Q K st a w c at_ h2 he
  | .block id x, hl, Q, K, st, a, w, c, at_, hk, he => by
    simp only [interp] at hk
    refine wp_block (interp_sound T hm hE hlen x (fun b hb => hl b (by simp [loopsOf, hb])) _ _ st a w c at_ hk fun e st' a' w' c' at' hk' => ?_)
    cases e with
    | normal => exact he .normal st' a' w' c' at' hk'
    | exit i =>
      simp only [Ex.out, Exit.inBlock]
      simp only at hk'
      split
      · rename_i hi
        rw [if_pos hi] at hk'
        exact he .normal st' a' w' c' at' hk'
      · rename_i hi
        rw [if_neg hi] at hk'
        exact he (.exit i) st' a' w' c' at' hk'
    | goto l => exact he (.goto l) st' a' w' c' at' hk'
    | ret => exact he .ret st' a' w' c' at' hk'
  | .loop x, hl, Q, K, st, a, w, c, at_, hk, he => by
    have hx : ∀ b ∈ loopsOf x, LoopOk tt E L h0.length b := fun b hb => hl b (by simp [loopsOf, hb])
    have main : ∀ (f g : St → St), (∀ w st a c, At w0 h0 c0 D w st a c → ∃ c', At w0 h0 c0 D w (f st) a c') → (∀ w st a c, At w0 h0 c0 D w st a c → ∃ c', At w0 h0 c0 D w (g st) a c') →
        ∀ n st a w c, At w0 h0 c0 D w st a c → loopN (interp tt E L h0.length x) f n st (fun e st => K e (g st)) = some r → (Code.loop x).wp P Q a w := by
      intro f g hf hg n st a w c at_ hk
      refine wp_rounds (fun n a w => ∃ st c, At w0 h0 c0 D w st a c ∧ loopN (interp tt E L h0.length x) f n st (fun e st => K e (g st)) = some r) (fun a w => ?_) (fun n a w => ?_) ⟨st, c, at_, hk⟩
      · rintro ⟨st, c, _, hk⟩
        cases hk
      · rintro ⟨st, c, at_, hk⟩
        simp only [loopN] at hk
        refine interp_sound T hm hE hlen x hx _ _ st a w c at_ hk fun e st' a' w' c' at' hk' => ?_
        cases e with
        | normal =>
          obtain ⟨c2, at2⟩ := hf w' st' a' c' at'
          exact ⟨f st', c2, at2, hk'⟩
        | exit i => obtain ⟨c2, at2⟩ := hg w' st' a' c' at'; exact he (.exit i) _ a' w' c2 at2 hk'
        | goto l => obtain ⟨c2, at2⟩ := hg w' st' a' c' at'; exact he (.goto l) _ a' w' c2 at2 hk'
        | ret => obtain ⟨c2, at2⟩ := hg w' st' a' c' at'; exact he .ret _ a' w' c2 at2 hk'
    simp only [interp] at hk
    split at hk
    · rename_i hint ls hL
      have hnorm : ∀ w st a c, At w0 h0 c0 D w st a c → ∃ c', At w0 h0 c0 D w (norm h0.length hint st) a c' := fun w st a c at_ => by
        obtain ⟨c', s', x'⟩ := norm_sound at_.sim at_.ext hlen hint
        exact ⟨c', s', x', at_.defers⟩
      have htrim : ∀ w st a c, At w0 h0 c0 D w st a c → ∃ c', At w0 h0 c0 D w (trim h0.length hint st) a c' := fun w st a c at_ => by
        obtain ⟨c', s', x'⟩ := trim_sound at_.sim at_.ext hlen hint
        exact ⟨c', s', x', at_.defers⟩
      obtain ⟨n, hn⟩ := hl x (by simp [loopsOf]) hint ls hL _ _ _ hk
      obtain ⟨c', at'⟩ := hnorm w st a c at_
      exact main _ _ hnorm htrim n _ a w c' at' hn
    · rw [iterK_eq] at hk
      exact main id id (fun w st a c h => ⟨c, h⟩) (fun w st a c h => ⟨c, h⟩) 70 st a w c at_ hk
  | .exit id, _, Q, K, st, a, w, c, at_, hk, he => wp_exit (he (.exit id) st a w c at_ hk)
  | .ret, _, Q, K, st, a, w, c, at_, hk, he => wp_ret (he .ret st a w c at_ hk)
  | .label _, _, _, _, _, _, _, _, _, hk, _ => by simp [interp] at hk
  | .goto _, _, _, _, _, _, _, _, _, hk, _ => by simp [interp] at hk
  | .scope _, _, _, _, _, _, _, _, _, hk, _ => by simp [interp] at hk
  | .refuse _, _, _, _, _, _, _, _, _, hk, _ => by simp [interp] at hk
end

theorem resK_sound (T : TOK P tt) {st : St} {a : Act} (sim : Sim w c st a) : ∀ (rs : List ResultVar) {k : List V → Option R} {r : R}, resK tt st rs k = some r →
    ∃ vs ds, k vs = some r ∧ RepL w st.hp c vs ds ∧ ds.length = rs.length ∧ (rs.mapM (m := Sem) fun | .tmp t => pure (a.tmps.getD t undef) | .cell b t => do loadVar t (← asAddr (a.tmps.getD b undef))).run P w = .ok ds w
  | [], k, r, hk => ⟨[], [], hk, .nil, rfl, by simp⟩
  | .tmp t :: rs, k, r, hk => by
    simp only [resK] at hk
    obtain ⟨vs, ds, h1, h2, h3, h4⟩ := resK_sound T sim rs hk
    refine ⟨_, a.tmps.getD t undef :: ds, h1, .cons ?_ h2, by simp [h3], ?_⟩
    · have := sim.fr.getD t undef
      simpa [List.getD, Array.getD_eq_getD_getElem?] using this
    · simp only [List.mapM_cons, Sem.run_bind, Sem.run_pure, Result.andThen_ok, h4]
  | .cell b t :: rs, k, r, hk => by
    simp only [resK] at hk
    split at hk <;> try (first | cases hk)
    rename_i i o hp
    split at hk <;> try (first | cases hk)
    rename_i cs hcs
    have hl := load_sound (P := P) T sim.wf (t := t) (a := .ptr i o) (a' := a.tmps.getD b undef) (lim := none) (k := fun v => resK tt st rs fun vs => k (v :: vs)) (r := r) (by
        have := sim.fr.getD b undef
        rw [hp] at this
        simpa [List.getD, Array.getD_eq_getD_getElem?] using this) (by simp only [limOk, if_true, hcs]; exact hk)
    obtain ⟨v, v', g1, g2, g3⟩ := hl
    obtain ⟨vs, ds, h1, h2, h3, h4⟩ := resK_sound T sim rs g3
    refine ⟨_, v' :: ds, h1, .cons g2 h2, by simp [h3], ?_⟩
    have hb : (do loadVar t (← asAddr (a.tmps.getD b undef)) : Sem Value).run P w = .ok v' w := by
      have rb := sim.fr.getD b undef
      rw [hp] at rb
      have e : a.tmps.toList.getD b undef = a.tmps.getD b undef := by simp [List.getD, Array.getD_eq_getD_getElem?]
      rw [e] at rb
      generalize a.tmps.getD b undef = q at rb g1
      cases rb with
      | ptr hu hv =>
        obtain ⟨b', rfl, _⟩ := hv
        simpa [Instr.loadAt, Instr.sureAddr, asAddr] using g1
    simp only [List.mapM_cons, Sem.run_bind, hb, Sem.run_pure, Result.andThen_ok, h4]

theorem finishK_sound {w0 : World} {h0 : Heap} {c0 : Cfg} {ts : List Nat} {keep : Bool} {vs : List V} {ds : List Value} (wf : WF w h c) (r : RepL w h c vs ds) (x : Ext w0 h0 c0 w h c) (hm : h0.length ≤ 200) (hts : ts.length = ds.length) {k : V → Heap → Option R} {q : R}
    (hk : finishK tt ts h0.length keep vs h k = some q) : ∃ v h' c', WF w h' c' ∧ Ext w0 h0 c0 w h' c' ∧ Rep w h' c' v (if h : ds.length = 1 then ds[0] else .tuple ds.toArray) ∧ k v h' = some q := by
  unfold finishK at hk
  have main : ∀ (ws : List V) (h1 : Heap), WF w h1 c → RepL w h1 c ws ds → Ext w0 h0 c0 w h1 c →
      ∀ ord : List Nat, ord.Nodup → (∀ i, i < h0.length → ord[i]? = some i ∨ ∃ j, h1.length ≤ j ∧ ord[i]? = some j) →
      k (match V.renL (posIn ord) ws with | [v] => v | l => .tuple l) (h1.pick ord) = some q →
      ∃ v h' c', WF w h' c' ∧ Ext w0 h0 c0 w h' c' ∧ Rep w h' c' v (if h : ds.length = 1 then ds[0] else .tuple ds.toArray) ∧ k v h' = some q := by
    intro ws h1 wf1 r1 x1 ord g1 g2 hk
    have rr := pick_same_rep (ord := ord) r1
    refine ⟨_, _, _, pick_same_wf wf1 g1, pick_ext' x1 g2, ?_, hk⟩
    have hlen := rr.1
    generalize V.renL (posIn ord) ws = us at rr hlen
    split
    · rename_i v
      have h1 : ds.length = 1 := by simpa using hlen.symm
      rw [dif_pos h1]
      exact rr.2 0 v _ rfl (List.getElem?_eq_getElem _)
    · rename_i hne
      have h1 : ¬ ds.length = 1 := fun e => by
        rw [e] at hlen
        match us, hlen with
        | [v], _ => exact hne v rfl
      rw [dif_neg h1]
      exact .tuple (by simpa using hlen) fun j v d hv hd => rr.2 j v d hv (by simpa using hd)
  have hrr := fun (h1 : Heap) (ws : List V) => reach_range h1 (m := h0.length) (n := 256) (by omega) (V.idsL ws)
  cases keep with
  | true =>
    simp only [if_true, Bool.true_and] at hk
    cases he : (V.idsL vs).isEmpty with
    | true =>
      rw [he] at hk
      obtain ⟨g1, g2⟩ := rebirth_spec (h := h) (hrr h vs).1 (hrr h vs).2
      exact main vs h wf r x _ g1 g2 hk
    | false =>
      rw [he] at hk
      exact main vs h wf r x _ (hrr h vs).1 (fun i hi => .inl ((hrr h vs).2 i hi)) hk
  | false =>
    simp only [Bool.false_eq_true, if_false, Bool.false_and, cond_false] at hk
    exact main _ _ (killRows_wf _ _ wf) (canonL_rep ts _ ds hts (shutL_rep wf r)) (x.trans (killRows_ext _ _)) _ (hrr _ _).1 (fun i hi => .inl ((hrr _ _).2 i hi)) hk

theorem funK_sound (T : TOK P tt) (hm : P.follows .mixedOrders = true) {E : Env R} (hE : EOk P E) {L : Nat → Option (Hint × LSpec R)} {g : Nat} {fn : Func} {code : Code} {keep : Bool} (hf : P.funcs[g]? = some fn) (hb : fn.body = some code)
    (hn : (fn.name == "runtime.NumGoroutine") = false) (hr : fn.results.size = fn.resultTypes.size) (m : Nat) (hl : ∀ a ∈ loopsOf code, LoopOk tt E L m a) : Spec.OkAt P g m (funK tt E L keep fn code) := by
  refine Spec.OkAt.of_body hf hn (by rw [hb]; rfl) fun vs h k r hml hk w c args wf ra => ?_
  subst hml
  refine calls_of_wp hf hb ?_
  unfold funK at hk
  split at hk
  · cases hk
  rename_i h200
  have hlen : h.length ≤ 200 := by omega
  have hfr : RepL w h c (vs ++ List.replicate (fn.ntmps - vs.length) .undef) (args ++ Array.replicate (fn.ntmps - args.size) undef).toList := by
    have e : vs.length = args.size := by simpa using ra.1
    rw [e]
    simpa using ra.append (RepL.replicate_undef (fn.ntmps - args.size) undef)
  refine interp_sound T hm hE (w0 := w) (h0 := h) (c0 := c) (D := []) hlen code hl _ _ _ _ w c ⟨⟨wf, hfr⟩, .refl _ _ _, rfl⟩ hk fun e st a w' c' at' hk' => ?_
  have fin : resK tt st fn.results.toList (fun vs => finishK tt fn.resultTypes.toList h.length keep vs st.hp k) = some r →
      a.defers = [] ∧ ∃ v, (results fn a.tmps).run P w' = .ok v w' ∧ ∃ d, Ending.returned v = Ending.returned d ∧ ∃ u h' c', WF w' h' c' ∧ Ext w h c w' h' c' ∧ Rep w' h' c' u d ∧ k u h' = some r := by
    intro hk
    obtain ⟨vs, ds, g1, g2, g3, g4⟩ := resK_sound T at'.sim _ hk
    obtain ⟨u, h', c2, k1, k2, k3, k4⟩ := finishK_sound at'.sim.wf g2 at'.ext hlen (by simp [g3, hr]) g1
    refine ⟨at'.defers, _, ?_, _, rfl, u, h', c2, k1, k2, k3, k4⟩
    unfold results
    simp only [Sem.run_bind, Array.mapM_eq_mapM_toList, map_eq_pure_bind, Sem.run_pure]
    refine (congrArg (fun z : Result (List Value) => (z.andThen fun a w' => Result.ok a.toArray w').andThen fun a w' => Result.ok (if h : a.size = 1 then a[0] else Value.tuple a) w') g4).trans ?_
    simp
  cases e with
  | normal => exact fin hk'
  | ret => exact fin hk'
  | exit i => cases hk'
  | goto l => cases hk'
end

inductive Leaf where
  | undef | nilptr | nilsl | nilfunc | nilmap | niliface | iface
  | ifi (t : Nat) (k : IntKind) (n : Int)
  | int (k : IntKind) | bool | str
  | ptr (i o : Nat)
  | sl (T : Ty) | slo (T : Ty) (i : Nat)
  | row (i : Nat)
  | map (i : Nat)
  | fn (f : Nat)
  deriving DecidableEq

def Leaf.den : Leaf → Type
  | .int _ => Int
  | .bool => Bool
  | .str => Str
  | .sl T => List T.den
  | .slo T _ => List T.den
  | .row _ => Nat
  | _ => Unit

def Leaf.enc : (p : Leaf) → p.den → V
  | .undef, _ => .undef
  | .nilptr, _ => .nilptr
  | .nilsl, _ => .nilsl
  | .nilfunc, _ => .nilfunc
  | .nilmap, _ => .nilmap
  | .niliface, _ => .niliface
  | .iface, _ => .iface
  | .ifi t k n, _ => .ifi t k n
  | .int k, (n : Int) => .int k n
  | .bool, (b : Bool) => .bool b
  | .str, (s : Str) => .str s
  | .ptr i o, _ => .ptr i o
  | .sl T, (l : List T.den) => .sl T l .no
  | .slo T i, (l : List T.den) => .sl T l (.own i)
  | .row i, (n : Nat) => .row i n
  | .map i, _ => .map i
  | .fn f, _ => .func f [] []

def decIx (k : IntKind) : V → Option Int | .int k' n => if k' = k then some n else none | _ => none
def decBx : V → Option Bool | .bool b => some b | _ => none
def decSx : V → Option Str | .str s => some s | _ => none
def decLx (T : Ty) : V → Option (List T.den) | .sl T' l .no => if h : T' = T then some (h ▸ l) else none | _ => none
def decOx (T : Ty) (i : Nat) : V → Option (List T.den) | .sl T' l (.own j) => if h : T' = T then (if j = i then some (h ▸ l) else none) else none | _ => none
def decRx (i : Nat) : V → Option Nat | .row j n => if j = i then some n else none | _ => none
def decPx (i o : Nat) : V → Option Unit | .ptr j q => if j = i ∧ q = o then some () else none | _ => none
def decMx (i : Nat) : V → Option Unit | .map j => if j = i then some () else none | _ => none
def decFx (f : Nat) : V → Option Unit | .func g [] [] => if g = f then some () else none | _ => none
def decUx : V → Option Unit | .undef => some () | _ => none
def decNp : V → Option Unit | .nilptr => some () | _ => none
def decNs : V → Option Unit | .nilsl => some () | _ => none
def decNf : V → Option Unit | .nilfunc => some () | _ => none
def decNm : V → Option Unit | .nilmap => some () | _ => none
def decNi : V → Option Unit | .niliface => some () | _ => none
def decIf : V → Option Unit | .iface => some () | _ => none
def decIi (t : Nat) (k : IntKind) (n : Int) : V → Option Unit | .ifi t' k' n' => if t' = t ∧ k' = k ∧ n' = n then some () else none | _ => none

theorem decIx_eq {k : IntKind} {v : V} {x : Int} (h : decIx k v = some x) : v = .int k x := by
  unfold decIx at h
  split at h
  · split at h
    · rename_i e; subst e; cases h; rfl
    · cases h
  · cases h
theorem decBx_eq {v : V} {x : Bool} (h : decBx v = some x) : v = .bool x := by unfold decBx at h; split at h <;> first | (cases h; rfl) | cases h
theorem decSx_eq {v : V} {x : Str} (h : decSx v = some x) : v = .str x := by unfold decSx at h; split at h <;> first | (cases h; rfl) | cases h
theorem decLx_eq {T : Ty} {v : V} {x : List T.den} (h : decLx T v = some x) : v = .sl T x .no := by
  unfold decLx at h
  split at h
  · split at h
    · rename_i e; subst e; cases h; rfl
    · cases h
  · cases h
theorem decOx_eq {T : Ty} {i : Nat} {v : V} {x : List T.den} (h : decOx T i v = some x) : v = .sl T x (.own i) := by
  unfold decOx at h
  split at h
  · split at h
    · rename_i e
      subst e
      split at h
      · rename_i e; subst e; cases h; rfl
      · cases h
    · cases h
  · cases h
theorem decRx_eq {i : Nat} {v : V} {x : Nat} (h : decRx i v = some x) : v = .row i x := by
  unfold decRx at h
  split at h
  · split at h
    · rename_i e; subst e; cases h; rfl
    · cases h
  · cases h
theorem decPx_eq {i o : Nat} {v : V} {x : Unit} (h : decPx i o v = some x) : v = .ptr i o := by
  unfold decPx at h
  split at h
  · split at h
    · rename_i e; obtain ⟨rfl, rfl⟩ := e; rfl
    · cases h
  · cases h
theorem decMx_eq {i : Nat} {v : V} {x : Unit} (h : decMx i v = some x) : v = .map i := by
  unfold decMx at h
  split at h
  · split at h
    · rename_i e; subst e; rfl
    · cases h
  · cases h
theorem decFx_eq {f : Nat} {v : V} {x : Unit} (h : decFx f v = some x) : v = .func f [] [] := by
  unfold decFx at h
  split at h
  · split at h
    · rename_i e; subst e; rfl
    · cases h
  · cases h
theorem decUx_eq {v : V} {x : Unit} (h : decUx v = some x) : v = .undef := by unfold decUx at h; split at h <;> first | rfl | cases h
theorem decNp_eq {v : V} {x : Unit} (h : decNp v = some x) : v = .nilptr := by unfold decNp at h; split at h <;> first | rfl | cases h
theorem decNs_eq {v : V} {x : Unit} (h : decNs v = some x) : v = .nilsl := by unfold decNs at h; split at h <;> first | rfl | cases h
theorem decNf_eq {v : V} {x : Unit} (h : decNf v = some x) : v = .nilfunc := by unfold decNf at h; split at h <;> first | rfl | cases h
theorem decNm_eq {v : V} {x : Unit} (h : decNm v = some x) : v = .nilmap := by unfold decNm at h; split at h <;> first | rfl | cases h
theorem decIf_eq {v : V} {x : Unit} (h : decIf v = some x) : v = .iface := by unfold decIf at h; split at h <;> first | rfl | cases h
theorem decIi_eq {t : Nat} {k : IntKind} {n : Int} {v : V} {x : Unit} (h : decIi t k n v = some x) : v = .ifi t k n := by
  unfold decIi at h
  split at h
  · split at h
    · rename_i e; obtain ⟨rfl, rfl, rfl⟩ := e; rfl
    · cases h
  · cases h
theorem decNi_eq {v : V} {x : Unit} (h : decNi v = some x) : v = .niliface := by unfold decNi at h; split at h <;> first | rfl | cases h

def Leaf.dec : (p : Leaf) → V → Option p.den
  | .undef => decUx
  | .nilptr => decNp
  | .nilsl => decNs
  | .nilfunc => decNf
  | .nilmap => decNm
  | .niliface => decNi
  | .iface => decIf
  | .ifi t k n => decIi t k n
  | .int k => decIx k
  | .bool => decBx
  | .str => decSx
  | .ptr i o => decPx i o
  | .sl T => decLx T
  | .slo T i => decOx T i
  | .row i => decRx i
  | .map i => decMx i
  | .fn f => decFx f

theorem Leaf.dec_eq (p : Leaf) {v : V} {x : p.den} (h : p.dec v = some x) : v = p.enc x := by
  cases p
  · exact decUx_eq h
  · exact decNp_eq h
  · exact decNs_eq h
  · exact decNf_eq h
  · exact decNm_eq h
  · exact decNi_eq h
  · exact decIf_eq h
  · exact decIi_eq h
  · exact decIx_eq h
  · exact decBx_eq h
  · exact decSx_eq h
  · exact decPx_eq h
  · exact decLx_eq h
  · exact decOx_eq h
  · exact decRx_eq h
  · exact decMx_eq h
  · exact decFx_eq h

def Leaf.dens : List Leaf → Type
  | [] => Unit
  | p :: ps => p.den × Leaf.dens ps
def Leaf.encL : (ps : List Leaf) → Leaf.dens ps → List V
  | [], _ => []
  | p :: ps, (x : p.den × Leaf.dens ps) => p.enc x.1 :: Leaf.encL ps x.2
def both {α β : Type} : Option α → Option β → Option (α × β)
  | some x, some y => some (x, y)
  | _, _ => none
theorem both_eq {α β : Type} {a : Option α} {b : Option β} {z : α × β} (h : both a b = some z) : a = some z.1 ∧ b = some z.2 := by
  cases a <;> cases b <;> cases h
  exact ⟨rfl, rfl⟩
def Leaf.decL : (ps : List Leaf) → List V → Option (Leaf.dens ps)
  | [], [] => some ()
  | [], _ :: _ => none
  | _ :: _, [] => none
  | p :: ps, v :: vs => both (p.dec v) (Leaf.decL ps vs)
theorem Leaf.decL_eq : ∀ (ps : List Leaf) {vs : List V} {x : Leaf.dens ps}, Leaf.decL ps vs = some x → vs = Leaf.encL ps x
  | [], [], _, _ => rfl
  | [], _ :: _, _, h => by cases h
  | _ :: _, [], _, h => by cases h
  | p :: ps, v :: vs, x, h => by
    obtain ⟨h1, h2⟩ := both_eq (a := p.dec v) (b := Leaf.decL ps vs) h
    show v :: vs = p.enc x.1 :: Leaf.encL ps x.2
    rw [← Leaf.dec_eq p h1, ← Leaf.decL_eq ps h2]

inductive Pat where
  | leaf (l : Leaf)
  | agg (ps : List Leaf)
  | func (f : Nat) (a b : List Leaf)

def Pat.den : Pat → Type
  | .leaf l => l.den
  | .agg ps => Leaf.dens ps
  | .func _ a b => Leaf.dens a × Leaf.dens b
def Pat.enc : (p : Pat) → p.den → V
  | .leaf l, x => l.enc x
  | .agg ps, x => .agg (Leaf.encL ps x)
  | .func f a b, (x : Leaf.dens a × Leaf.dens b) => .func f (Leaf.encL a x.1) (Leaf.encL b x.2)
def decAx (ps : List Leaf) : V → Option (Leaf.dens ps) | .agg cs => Leaf.decL ps cs | _ => none
def decFnx (f : Nat) (a b : List Leaf) : V → Option (Leaf.dens a × Leaf.dens b) | .func g x y => if g = f then both (Leaf.decL a x) (Leaf.decL b y) else none | _ => none
def Pat.dec : (p : Pat) → V → Option p.den
  | .leaf l => l.dec
  | .agg ps => decAx ps
  | .func f a b => decFnx f a b
theorem Pat.dec_eq (p : Pat) {v : V} {x : p.den} (h : p.dec v = some x) : v = p.enc x := by
  cases p with
  | leaf l => exact Leaf.dec_eq l h
  | agg ps =>
    replace h : decAx ps v = some x := h
    unfold decAx at h
    split at h
    · rename_i cs
      show V.agg cs = .agg (Leaf.encL ps x)
      rw [← Leaf.decL_eq ps h]
    · cases h
  | func f a b =>
    replace h : decFnx f a b v = some x := h
    unfold decFnx at h
    split at h
    · split at h
      · rename_i e
        subst e
        obtain ⟨h1, h2⟩ := both_eq h
        rename_i g p q
        show V.func g p q = .func g (Leaf.encL a x.1) (Leaf.encL b x.2)
        rw [← Leaf.decL_eq a h1, ← Leaf.decL_eq b h2]
      · cases h
    · cases h
def Pat.dens : List Pat → Type
  | [] => Unit
  | p :: ps => p.den × Pat.dens ps
def Pat.encL : (ps : List Pat) → Pat.dens ps → List V
  | [], _ => []
  | p :: ps, (x : p.den × Pat.dens ps) => p.enc x.1 :: Pat.encL ps x.2
def Pat.decL : (ps : List Pat) → List V → Option (Pat.dens ps)
  | [], [] => some ()
  | [], _ :: _ => none
  | _ :: _, [] => none
  | p :: ps, v :: vs => both (p.dec v) (Pat.decL ps vs)
theorem Pat.decL_eq : ∀ (ps : List Pat) {vs : List V} {x : Pat.dens ps}, Pat.decL ps vs = some x → vs = Pat.encL ps x
  | [], [], _, _ => rfl
  | [], _ :: _, _, h => by cases h
  | _ :: _, [], _, h => by cases h
  | p :: ps, v :: vs, x, h => by
    obtain ⟨h1, h2⟩ := both_eq (a := p.dec v) (b := Pat.decL ps vs) h
    show v :: vs = p.enc x.1 :: Pat.encL ps x.2
    rw [← Pat.dec_eq p h1, ← Pat.decL_eq ps h2]

inductive HPat where
  | free | dead | tok | iter
  | cells (ps : List Leaf)
  | row (T : Ty)
  | bld (p : Leaf)
  | amap (K T : Ty)

def HPat.den : HPat → Type
  | .cells ps => Leaf.dens ps
  | .row T => List T.den
  | .bld p => p.den
  | .amap K T => List (K.den × T.den)
  | .iter => Str × Nat
  | _ => Unit
def HPat.enc : (p : HPat) → p.den → AObj
  | .free, _ => .free
  | .dead, _ => .dead
  | .tok, _ => .tok
  | .iter, x => .iter (Prod.fst (α := Str) (β := Nat) x) (Prod.snd (α := Str) (β := Nat) x)
  | .cells ps, x => .cells (Leaf.encL ps x)
  | .row T, x => .row T x
  | .bld p, x => .bld (p.enc x)
  | .amap K T, x => .amap K T x
def decBl (p : Leaf) : AObj → Option p.den | .bld v => p.dec v | _ => none
def decCx (ps : List Leaf) : AObj → Option (Leaf.dens ps) | .cells cs => Leaf.decL ps cs | _ => none
def decWx (T : Ty) : AObj → Option (List T.den) | .row T' l => if h : T' = T then some (h ▸ l) else none | _ => none
def decAm (K T : Ty) : AObj → Option (List (K.den × T.den)) | .amap K' T' l => if h : K' = K ∧ T' = T then some (h.1 ▸ h.2 ▸ l) else none | _ => none
def decHf : AObj → Option Unit | .free => some () | _ => none
def decHd : AObj → Option Unit | .dead => some () | _ => none
def decHi : AObj → Option (Str × Nat) | .iter s p => some (s, p) | _ => none
def decHt : AObj → Option Unit | .tok => some () | _ => none
def HPat.dec : (p : HPat) → AObj → Option p.den
  | .free => decHf
  | .dead => decHd
  | .tok => decHt
  | .iter => decHi
  | .cells ps => decCx ps
  | .row T => decWx T
  | .bld p => decBl p
  | .amap K T => decAm K T
theorem HPat.dec_eq (p : HPat) {o : AObj} {x : p.den} (h : p.dec o = some x) : o = p.enc x := by
  cases p with
  | free => replace h : decHf o = some x := h; unfold decHf at h; split at h <;> first | rfl | cases h
  | dead => replace h : decHd o = some x := h; unfold decHd at h; split at h <;> first | rfl | cases h
  | tok => replace h : decHt o = some x := h; unfold decHt at h; split at h <;> first | rfl | cases h
  | iter => replace h : decHi o = some x := h; unfold decHi at h; split at h <;> first | (cases h; rfl) | cases h
  | cells ps =>
    replace h : decCx ps o = some x := h
    unfold decCx at h
    split at h
    · rename_i cs
      show AObj.cells cs = .cells (Leaf.encL ps x)
      rw [← Leaf.decL_eq ps h]
    · cases h
  | bld p =>
    replace h : decBl p o = some x := h
    unfold decBl at h
    split at h
    · rename_i v
      show AObj.bld v = .bld (p.enc x)
      rw [← Leaf.dec_eq p h]
    · cases h
  | amap K T =>
    replace h : decAm K T o = some x := h
    unfold decAm at h
    split at h
    · split at h
      · rename_i e; obtain ⟨rfl, rfl⟩ := e; cases h; rfl
      · cases h
    · cases h
  | row T =>
    replace h : decWx T o = some x := h
    unfold decWx at h
    split at h
    · split at h
      · rename_i e; subst e; cases h; rfl
      · cases h
    · cases h
def HPat.dens : List HPat → Type
  | [] => Unit
  | p :: ps => p.den × HPat.dens ps
def HPat.encL : (ps : List HPat) → HPat.dens ps → Heap
  | [], _ => []
  | p :: ps, (x : p.den × HPat.dens ps) => p.enc x.1 :: HPat.encL ps x.2
def HPat.decL : (ps : List HPat) → List AObj → Option (HPat.dens ps)
  | [], [] => some ()
  | [], _ :: _ => none
  | _ :: _, [] => none
  | p :: ps, v :: vs => both (p.dec v) (HPat.decL ps vs)
theorem HPat.decL_eq : ∀ (ps : List HPat) {vs : List AObj} {x : HPat.dens ps}, HPat.decL ps vs = some x → vs = HPat.encL ps x
  | [], [], _, _ => rfl
  | [], _ :: _, _, h => by cases h
  | _ :: _, [], _, h => by cases h
  | p :: ps, v :: vs, x, h => by
    obtain ⟨h1, h2⟩ := both_eq (a := p.dec v) (b := HPat.decL ps vs) h
    show v :: vs = p.enc x.1 :: HPat.encL ps x.2
    rw [← HPat.dec_eq p h1, ← HPat.decL_eq ps h2]

theorem HPat.encL_len : ∀ (ps : List HPat) (x : HPat.dens ps), (HPat.encL ps x).length = ps.length
  | [], _ => rfl
  | p :: ps, x => by
    show (p.enc x.1 :: HPat.encL ps x.2).length = _
    simp [HPat.encL_len ps]

section
variable {R : Type} {P : Program} {tt : TTab}

def specBy (ps : List Pat) (hs : List HPat) (run : Pat.dens ps → HPat.dens hs → (V → Heap → Option R) → Option R) (other : Spec R) : Spec R := fun args h k =>
  match Pat.decL ps args, HPat.decL hs h with
  | some x, some y => run x y k
  | _, _ => other args h k

def specNo : Spec R := fun _ _ _ => none

theorem specNo_ok (g : Nat) : Spec.Ok P g (specNo : Spec R) := by intro vs h k r hk; cases hk

theorem specBy_ok {g : Nat} {ps : List Pat} {hs : List HPat} {run : Pat.dens ps → HPat.dens hs → (V → Heap → Option R) → Option R} {other own : Spec R} (ho : Spec.Ok P g other) (hw : Spec.OkAt P g hs.length own)
    (hr : ∀ x y k, own (Pat.encL ps x) (HPat.encL hs y) k = run x y k) : Spec.Ok P g (specBy ps hs run other) := by
  intro vs h k r hk
  unfold specBy at hk
  split at hk
  · rename_i x y h1 h2
    rw [Pat.decL_eq ps h1, HPat.decL_eq hs h2]
    rw [← hr] at hk
    exact hw _ _ _ _ (HPat.encL_len hs y) hk
  · exact ho _ _ _ _ hk

def loopBy (ps : List Pat) (hs : List HPat) (run : Pat.dens ps → HPat.dens hs → (Ex → St → Option R) → Option R) (other : LSpec R) : LSpec R := fun st K =>
  match Pat.decL ps st.fr, HPat.decL hs st.hp with
  | some x, some y => run x y K
  | _, _ => other st K

def loopNo : LSpec R := fun _ _ => none

def LsOk (tt : TTab) (E : Env R) (L : Nat → Option (Hint × LSpec R)) (m : Nat) (a : Code) (hint : Hint) (ls : LSpec R) : Prop :=
  ∀ st (K : Ex → St → Option R) r, ls st K = some r → ∃ n, loopN (interp tt E L m a) (norm m hint) n st (fun e st => K e (trim m hint st)) = some r

theorem loopNo_ok {E : Env R} {L : Nat → Option (Hint × LSpec R)} {m : Nat} {a : Code} {hint : Hint} : LsOk tt E L m a hint loopNo := by intro st K r hk; cases hk

theorem loopBy_ok {E : Env R} {L : Nat → Option (Hint × LSpec R)} {m : Nat} {a : Code} {hint : Hint} {ps : List Pat} {hs : List HPat} {run : Pat.dens ps → HPat.dens hs → (Ex → St → Option R) → Option R} {other : LSpec R} (ho : LsOk tt E L m a hint other)
    (hr : ∀ x y K, ∃ n, loopN (interp tt E L m a) (norm m hint) n ⟨Pat.encL ps x, HPat.encL hs y⟩ (fun e st => K e (trim m hint st)) = run x y K) : LsOk tt E L m a hint (loopBy ps hs run other) := by
  intro st K r hk
  obtain ⟨fr, hp⟩ := st
  unfold loopBy at hk
  simp only at hk
  split at hk
  · rename_i x y h1 h2
    rw [Pat.decL_eq ps h1, HPat.decL_eq hs h2]
    obtain ⟨n, hn⟩ := hr x y K
    exact ⟨n, by rw [hn]; exact hk⟩
  · exact ho _ _ _ hk

def codeOf (f : Func) : Code := f.body.getD .skip

theorem loops_ok {E : Env R} {L : Nat → Option (Hint × LSpec R)} {m : Nat} {l : List Code} (n : Nat) (hn : l.length = n) (h : ∀ i, i < n → LoopOk tt E L m (l.getD i .skip)) : ∀ a ∈ l, LoopOk tt E L m a := by
  intro a ha
  obtain ⟨i, hi, rfl⟩ := List.mem_iff_getElem.1 ha
  have := h i (by omega)
  simpa [List.getD, List.getElem?_eq_getElem hi] using this

theorem loopOk_some {E : Env R} {L : Nat → Option (Hint × LSpec R)} {m : Nat} {a : Code} {hint : Hint} {ls : LSpec R} (h : L (keyOf a) = some (hint, ls)) (hs : LsOk tt E L m a hint ls) : LoopOk tt E L m a := by
  intro hint' ls' hl
  rw [h] at hl
  cases hl
  exact hs

noncomputable def roundOf (tt : TTab) (E : Env R) (L : Nat → Option (Hint × LSpec R)) (m : Nat) (a : Code) (hint : Hint) (st : St) (rec' : St → Option R) (K : Ex → St → Option R) : Option R :=
  interp tt E L m a st fun e st' => match e with | .normal => rec' (norm m hint st') | e => K e (trim m hint st')

theorem loopN_succ {E : Env R} {L : Nat → Option (Hint × LSpec R)} {m : Nat} {a : Code} {hint : Hint} {n : Nat} {st : St} {K : Ex → St → Option R} :
    loopN (interp tt E L m a) (norm m hint) (n + 1) st (fun e st => K e (trim m hint st)) = roundOf tt E L m a hint st (fun st => loopN (interp tt E L m a) (norm m hint) n st (fun e st => K e (trim m hint st))) K := by
  unfold roundOf
  simp only [loopN]
  congr 1
end

section
variable {P : Program} {tt : TTab} {w : World} {h : Heap} {c : Cfg}

theorem zero_rep : ∀ l : List Value, RepL w h c (l.map ofConst) l
  | [] => .nil
  | v :: l => .cons (ofConst_rep v) (zero_rep l)

def zeroOf (i : TypeInfo) : Option (Nat × List V × Bool) := i.zero.map fun z => (z.cells.size, z.cells.toList.map ofConst, z.oneCell')

def InfoOk (P : Program) (tt : TTab) (t : Nat) : Prop :=
  ∃ i, P.info? t = some i ∧ i.size = (tt.at t).size ∧ i.bytes = (tt.at t).bytes ∧ zeroOf i = some ((tt.at t).size, (tt.at t).zero, !tt.isAgg t)

theorem InfoOk.spec {t : Nat} (h : InfoOk P tt t) : ∃ i z, P.info? t = some i ∧ i.size = (tt.at t).size ∧ i.bytes = (tt.at t).bytes ∧ i.zero = some z ∧ z.cells.size = i.size ∧
    ∀ (w : World) (h : Heap) (c : Cfg), RepL w h c (tt.at t).zero z.cells.toList := by
  obtain ⟨i, h1, h2, h3, h4⟩ := h
  unfold zeroOf at h4
  cases hz : i.zero with
  | none => rw [hz] at h4; cases h4
  | some z =>
    rw [hz] at h4
    simp only [Option.map_some, Option.some.injEq, Prod.mk.injEq] at h4
    refine ⟨i, z, h1, h2, h3, hz, by rw [h4.1, h2], fun w h c => ?_⟩
    rw [← h4.2.1]
    exact zero_rep _

theorem InfoOk.one {t : Nat} (h : InfoOk P tt t) : ∀ i z, P.info? t = some i → i.zero = some z → z.oneCell' = !tt.isAgg t := by
  intro i z hi hz
  obtain ⟨j, h1, h2, h3, h4⟩ := h
  rw [hi] at h1; cases h1
  unfold zeroOf at h4
  rw [hz] at h4
  simp only [Option.map_some, Option.some.injEq, Prod.mk.injEq] at h4
  exact h4.2.2

theorem u8s_of (h : (List.range tt.length).all (fun e => match (tt.at e).ty with | some (.int .u8) => Nat.beq e lay0.u8 | _ => true) = true) : ∀ e, (tt.at e).ty = some (.int .u8) → e = lay0.u8 := by
  intro e he
  by_cases hl : e < tt.length
  · have := List.all_eq_true.1 h e (by simpa using hl)
    rw [he] at this
    exact Nat.eq_of_beq_eq_true this
  · have : tt.at e = TI.none := by unfold TTab.at; simp [List.getD, List.getElem?_eq_none (Nat.le_of_not_lt hl)]
    rw [this] at he; cases he

def bldOk (tt : TTab) (t : Nat) : Bool := Nat.beq t lay0.bld && tt.ok t && (match (tt.at t).zero with | [.nilptr, .nilsl] => true | _ => false)
theorem blds_of (h : (List.range tt.length).all (fun t => bif (tt.at t).bld then bldOk tt t else true) = true) : ∀ t, (tt.at t).bld = true → t = lay0.bld ∧ (tt.at t).zero = [.nilptr, .nilsl] ∧ tt.ok t = true := by
  intro t ht
  by_cases hl : t < tt.length
  · have := List.all_eq_true.1 h t (by simpa using hl)
    rw [ht] at this
    simp only [cond_true, bldOk, Bool.and_eq_true] at this
    obtain ⟨⟨h1, h2⟩, h3⟩ := this
    refine ⟨Nat.eq_of_beq_eq_true h1, ?_, h2⟩
    split at h3
    · assumption
    · cases h3
  · have : tt.at t = TI.none := by unfold TTab.at; simp [List.getD, List.getElem?_eq_none (Nat.le_of_not_lt hl)]
    rw [this] at ht; cases ht

end

section
variable {P : Program} {tt : TTab} {w : World} {h : Heap} {c : Cfg}

def Scal (P : Program) (ty : TypeId) (z : V) : Prop :=
  (∃ k n, z = .int k n ∧ P.underlying ty = some (.int k)) ∨ (∃ s, z = .str s ∧ P.underlying ty = some .string) ∨ (∃ b, z = .bool b ∧ P.underlying ty = some .bool)

theorem scal_part {ty : TypeId} {z : V} (s : Scal P ty z) {xs : Array Value} {j : Nat} {x : Value} (hx : xs[j]? = some x) : (part ty xs j).run P w = .ok x w := by
  rcases s with ⟨k, n, _, hu⟩ | ⟨n, _, hu⟩ | ⟨n, _, hu⟩ <;> simp [part, Go.isAgg, run_underlying hu, hx]

theorem eqF (d : Nat) (xs ys : Array Value) : ∀ (fs : List Field) (zs cs ds : List V) (j : Nat) (b : Bool), (∀ i f z, fs[i]? = some f → zs[i]? = some z → f.name ≠ "_" ∧ f.offset = j + i ∧ Scal P f.type z) → fs.length = zs.length →
    kindsOk zs cs = true → kindsOk zs ds = true → eqCells cs ds = some b → (∀ i v, cs[i]? = some v → ∃ x, xs[j + i]? = some x ∧ Rep w h c v x) → (∀ i v, ds[i]? = some v → ∃ x, ys[j + i]? = some x ∧ Rep w h c v x) →
    (Op.eqFields (d + 1) xs ys fs).run P w = .ok b w
  | [], zs, cs, ds, j, b, _, hl, hc, hd, he, _, _ => by
    have : zs = [] := List.eq_nil_of_length_eq_zero hl.symm
    subst this
    cases cs with
    | cons => cases hc
    | nil =>
      cases ds with
      | cons => cases hd
      | nil => cases he; simp [Op.eqFields]
  | f :: fs, [], _, _, _, _, _, hl, _, _, _, _, _ => by cases hl
  | f :: fs, z :: zs, cs, ds, j, b, hf, hl, hc, hd, he, hx, hy => by
    obtain ⟨h1, h2, h3⟩ := hf 0 f z rfl rfl
    have hf' : ∀ i g y, fs[i]? = some g → zs[i]? = some y → g.name ≠ "_" ∧ g.offset = (j + 1) + i ∧ Scal P g.type y := fun i g y hg hy => by
      have := hf (i + 1) g y (by simpa using hg) (by simpa using hy)
      exact ⟨this.1, by omega, this.2.2⟩
    have hl' : fs.length = zs.length := by simpa using hl
    cases cs with
    | nil => cases z <;> cases hc
    | cons c0 cs =>
      cases ds with
      | nil => cases z <;> cases hd
      | cons d0 ds =>
        obtain ⟨x, hx0, rx⟩ := hx 0 c0 rfl
        obtain ⟨y, hy0, ry⟩ := hy 0 d0 rfl
        have hx' : ∀ i v, cs[i]? = some v → ∃ x, xs[(j + 1) + i]? = some x ∧ Rep w h c v x := fun i v hv => by
          obtain ⟨x, q1, q2⟩ := hx (i + 1) v (by simpa using hv)
          exact ⟨x, by rw [← q1]; congr 1; omega, q2⟩
        have hy' : ∀ i v, ds[i]? = some v → ∃ x, ys[(j + 1) + i]? = some x ∧ Rep w h c v x := fun i v hv => by
          obtain ⟨x, q1, q2⟩ := hy (i + 1) v (by simpa using hv)
          exact ⟨x, by rw [← q1]; congr 1; omega, q2⟩
        have p1 := scal_part (w := w) h3 hx0
        have p2 := scal_part (w := w) h3 hy0
        have fin : ∀ (r : Bool), (Op.equalIn (d + 1) f.type x y).run P w = .ok r w → ∀ b', eqCells cs ds = some b' → kindsOk zs cs = true → kindsOk zs ds = true → b = (r && b') → (Op.eqFields (d + 1) xs ys (f :: fs)).run P w = .ok b w := by
          intro r hr b' hb' kc kd hb
          subst hb
          have ih := eqF d xs ys fs zs cs ds (j + 1) b' hf' hl' kc kd hb' hx' hy'
          simp only [Op.eqFields, h1, ne_eq, not_false_eq_true, if_true, Sem.run_bind, h2, Nat.add_zero, p1, p2, Result.andThen_ok, hr]
          simp only [Nat.add_zero] at p1 p2
          simp only [p1, p2, Result.andThen_ok, hr]
          cases r with
          | true => simpa using ih
          | false => simp
        rcases h3 with ⟨k, n, rfl, hu⟩ | ⟨s, rfl, hu⟩ | ⟨q, rfl, hu⟩
        · cases c0 with
          | int k1 n1 =>
            cases d0 with
            | int k2 n2 =>
              simp only [kindsOk, Bool.and_eq_true, decide_eq_true_eq] at hc hd
              obtain ⟨rfl, hc⟩ := hc
              obtain ⟨rfl, hd⟩ := hd
              cases rx
              cases ry
              simp only [eqCells, if_true] at he
              split at he
              · rename_i b' hb'
                cases he
                exact fin _ (run_equalIn_int w d _ _ _ _ _ hu) b' hb' hc hd rfl
              · cases he
            | _ => simp [kindsOk] at hd
          | _ => simp [kindsOk] at hc
        · cases c0 with
          | str s1 =>
            cases d0 with
            | str s2 =>
              simp only [kindsOk] at hc hd
              cases rx
              cases ry
              simp only [eqCells] at he
              split at he
              · rename_i b' hb'
                cases he
                refine fin _ (run_equalIn_string w d _ _ _ hu) b' hb' hc hd ?_
                congr 1
                simp only [ByteArray.toList_eq]
              · cases he
            | _ => simp [kindsOk] at hd
          | _ => simp [kindsOk] at hc
        · cases c0 with
          | bool s1 =>
            cases d0 with
            | bool s2 =>
              simp only [kindsOk] at hc hd
              cases rx
              cases ry
              simp only [eqCells] at he
              split at he
              · rename_i b' hb'
                cases he
                exact fin _ (run_equalIn_bool' w d _ _ _ hu) b' hb' hc hd rfl
              · cases he
            | _ => simp [kindsOk] at hd
          | _ => simp [kindsOk] at hc

def FlatT (P : Program) (ty : TypeId) (g : List V) : Prop :=
  P.underlying ty = some (.struct (P.fieldsOf ty)) ∧ P.stoodInHeld ty = false ∧ (∃ i, P.info? ty = some i) ∧ P.cellsOf ty = g.length ∧ (P.fieldsOf ty).toList.length = g.length ∧
    ∀ i f z, (P.fieldsOf ty).toList[i]? = some f → g[i]? = some z → f.name ≠ "_" ∧ f.offset = 0 + i ∧ Scal P f.type z

def NestOk (P : Program) : List Field → List (List V) → Nat → Prop
  | [], [], _ => True
  | f :: fs, g :: gs, j => f.name ≠ "_" ∧ f.offset = j ∧ ((∃ z, g = [z] ∧ Scal P f.type z) ∨ FlatT P f.type g) ∧ NestOk P fs gs (j + g.length)
  | _, _, _ => False

theorem kindsOk_len : ∀ {zs cs : List V}, kindsOk zs cs = true → cs.length = zs.length
  | [], [], _ => rfl
  | [], _ :: _, h => by cases h
  | z :: _, [], h => by cases z <;> cases h
  | z :: zs, c :: cs, h => by
    have : kindsOk zs cs = true := by
      cases z <;> cases c <;> simp [kindsOk] at h
      · exact h.2
      · exact h
      · exact h
    simp [kindsOk_len this]

theorem kindsOk_split : ∀ {g zs cs : List V}, kindsOk (g ++ zs) cs = true → kindsOk g (cs.take g.length) = true ∧ kindsOk zs (cs.drop g.length) = true
  | [], zs, cs, h => by simpa [kindsOk] using h
  | z :: g, zs, [], h => by cases z <;> cases h
  | z :: g, zs, c :: cs, h => by
    have key : kindsOk (g ++ zs) cs = true := by
      cases z <;> cases c <;> simp [kindsOk] at h
      · exact h.2
      · exact h
      · exact h
    obtain ⟨h1, h2⟩ := kindsOk_split key
    refine ⟨?_, by simpa using h2⟩
    simp only [List.length_cons, List.take_succ_cons]
    cases z <;> cases c <;> simp [kindsOk] at h ⊢
    · exact ⟨h.1, h1⟩
    · exact h1
    · exact h1

theorem eqCells_split : ∀ (n : Nat) {cs ds : List V} {b : Bool}, eqCells cs ds = some b → n ≤ cs.length → ∃ b1 b2, eqCells (cs.take n) (ds.take n) = some b1 ∧ eqCells (cs.drop n) (ds.drop n) = some b2 ∧ b = (b1 && b2)
  | 0, cs, ds, b, h, _ => ⟨true, b, by simp [eqCells], by simpa using h, by simp⟩
  | n + 1, [], _, _, _, hn => by simp at hn
  | n + 1, c :: cs, [], b, h, _ => by cases c <;> cases h
  | n + 1, c :: cs, d :: ds, b, h, hn => by
    have hn' : n ≤ cs.length := by simpa using hn
    simp only [List.take_succ_cons, List.drop_succ_cons]
    cases c <;> cases d <;> simp only [eqCells] at h ⊢ <;> try (first | cases h)
    · split at h
      · rename_i e
        rw [if_pos e]
        split at h
        · rename_i r hr
          cases h
          obtain ⟨b1, b2, h1, h2, h3⟩ := eqCells_split n hr hn'
          rw [h1]
          exact ⟨_, b2, rfl, h2, by rw [h3, Bool.and_assoc]⟩
        · cases h
      · cases h
    · split at h
      · rename_i r hr
        cases h
        obtain ⟨b1, b2, h1, h2, h3⟩ := eqCells_split n hr hn'
        rw [h1]
        exact ⟨_, b2, rfl, h2, by rw [h3, Bool.and_assoc]⟩
      · cases h
    · split at h
      · rename_i r hr
        cases h
        obtain ⟨b1, b2, h1, h2, h3⟩ := eqCells_split n hr hn'
        rw [h1]
        exact ⟨_, b2, rfl, h2, by rw [h3, Bool.and_assoc]⟩
      · cases h

theorem flat_part {ty : TypeId} {g : List V} (s : FlatT P ty g) {xs : Array Value} {j : Nat} : (part ty xs j).run P w = .ok (.agg (xs.extract j (j + g.length))) w := by
  obtain ⟨h1, _, ⟨i, h3⟩, h4, _⟩ := s
  have hs : (sizeOf ty).run P w = .ok g.length w := by
    have : P.cellsOf ty = i.size := by simp [Program.cellsOf, h3]
    rw [← h4, this]
    simp [sizeOf, typeInfo, h3]
  simp [part, Go.isAgg, run_underlying h1, hs]

theorem eqG (d : Nat) (xs ys : Array Value) : ∀ (fs : List Field) (gs : List (List V)) (cs ds : List V) (j : Nat) (b : Bool), NestOk P fs gs j → kindsOk gs.flatten cs = true → kindsOk gs.flatten ds = true → eqCells cs ds = some b →
    (∀ i v, cs[i]? = some v → ∃ x, xs[j + i]? = some x ∧ Rep w h c v x) → (∀ i v, ds[i]? = some v → ∃ x, ys[j + i]? = some x ∧ Rep w h c v x) → (Op.eqFields (d + 2) xs ys fs).run P w = .ok b w
  | [], [], cs, ds, j, b, _, hc, hd, he, _, _ => by
    cases cs with
    | cons => cases hc
    | nil =>
      cases ds with
      | cons => cases hd
      | nil => cases he; simp [Op.eqFields]
  | [], _ :: _, _, _, _, _, hn, _, _, _, _, _ => by cases hn
  | _ :: _, [], _, _, _, _, hn, _, _, _, _, _ => by cases hn
  | f :: fs, g :: gs, cs, ds, j, b, hn, hc, hd, he, hx, hy => by
    obtain ⟨n1, n2, n3, n4⟩ := hn
    rw [List.flatten_cons] at hc hd
    obtain ⟨c1, c2⟩ := kindsOk_split hc
    obtain ⟨d1, d2⟩ := kindsOk_split hd
    have lc := kindsOk_len hc
    have ld := kindsOk_len hd
    rw [List.length_append] at lc ld
    obtain ⟨b1, b2, e1, e2, rfl⟩ := eqCells_split g.length he (by omega)
    have behind : ∀ {cs : List V} {xs : Array Value}, (∀ i v, cs[i]? = some v → ∃ x, xs[j + i]? = some x ∧ Rep w h c v x) → ∀ i v, (cs.drop g.length)[i]? = some v → ∃ x, xs[(j + g.length) + i]? = some x ∧ Rep w h c v x := by
      intro cs xs hx i v hv
      rw [List.getElem?_drop] at hv
      obtain ⟨x, q1, q2⟩ := hx _ v hv
      exact ⟨x, by rw [← q1]; congr 1; omega, q2⟩
    have ih := eqG d xs ys fs gs _ _ (j + g.length) b2 n4 c2 d2 e2 (behind hx) (behind hy)
    -- what the field is
    have key : ∃ x y, (part f.type xs j).run P w = .ok x w ∧ (part f.type ys j).run P w = .ok y w ∧ (Op.equalIn (d + 2) f.type x y).run P w = .ok b1 w := by
      rcases n3 with ⟨z, rfl, hz⟩ | hF
      · -- one cell: the flat case, alone
        cases cs with
        | nil => simp only [List.length_nil, List.length_cons] at lc; omega
        | cons c0 cs =>
          cases ds with
          | nil => simp only [List.length_nil, List.length_cons] at ld; omega
          | cons d0 ds =>
            simp only [List.length_cons, List.length_nil, Nat.zero_add, List.take_succ_cons, List.take_zero] at c1 d1 e1
            obtain ⟨x, hx0, rx⟩ := hx 0 c0 rfl
            obtain ⟨y, hy0, ry⟩ := hy 0 d0 rfl
            rw [Nat.add_zero] at hx0 hy0
            refine ⟨x, y, scal_part hz hx0, scal_part hz hy0, ?_⟩
            rcases hz with ⟨k, n, rfl, hu⟩ | ⟨s, rfl, hu⟩ | ⟨q, rfl, hu⟩
            · cases c0 <;> simp [kindsOk] at c1
              cases d0 <;> simp [kindsOk] at d1
              subst c1 d1
              cases rx
              cases ry
              simp only [eqCells, if_true, Option.some.injEq] at e1
              subst e1
              rw [Bool.and_true]
              exact run_equalIn_int w (d + 1) _ _ _ _ _ hu
            · cases c0 <;> simp [kindsOk] at c1
              cases d0 <;> simp [kindsOk] at d1
              cases rx
              cases ry
              simp only [eqCells, Option.some.injEq] at e1
              subst e1
              rw [Bool.and_true]
              refine (run_equalIn_string w (d + 1) f.type _ _ hu).trans ?_
              congr 1
              simp only [ByteArray.toList_eq]
            · cases c0 <;> simp [kindsOk] at c1
              cases d0 <;> simp [kindsOk] at d1
              cases rx
              cases ry
              simp only [eqCells, Option.some.injEq] at e1
              subst e1
              rw [Bool.and_true]
              exact run_equalIn_bool' w (d + 1) _ _ _ hu
      · refine ⟨_, _, flat_part hF, flat_part hF, ?_⟩
        obtain ⟨h1, h2, h3, h4, h5, h6⟩ := hF
        rw [run_equalIn_struct w (d + 1) f.type _ _ h1 h2]
        have at0 : ∀ {cs : List V} {xs : Array Value}, (∀ i v, cs[i]? = some v → ∃ x, xs[j + i]? = some x ∧ Rep w h c v x) → ∀ i v, (cs.take g.length)[i]? = some v → ∃ x, (xs.extract j (j + g.length))[0 + i]? = some x ∧ Rep w h c v x := by
          intro cs xs hx i v hv
          have hi : i < g.length := by
            have := (List.getElem?_eq_some_iff.1 hv).1
            rw [List.length_take] at this
            omega
          rw [List.getElem?_take_of_lt hi] at hv
          obtain ⟨x, q1, q2⟩ := hx i v hv
          refine ⟨x, ?_, q2⟩
          rw [Nat.zero_add, Array.getElem?_extract]
          have hsz : j + i < xs.size := (Array.getElem?_eq_some_iff.1 q1).1
          rw [if_pos (by omega), q1]
        exact eqF d _ _ _ _ _ _ 0 b1 h6 h5 c1 d1 e1 (at0 hx) (at0 hy)
    obtain ⟨x, y, p1, p2, hr⟩ := key
    simp only [Op.eqFields, n1, ne_eq, not_false_eq_true, if_true, Sem.run_bind, n2, p1, p2, Result.andThen_ok, hr]
    cases b1 with
    | true => simpa using ih
    | false => simp

def fldOf (e : TypeId) (i : Nat) : Field := ⟨"x", e, i, false, "", "", 0⟩
theorem eqItems_fields (d : Nat) (e : TypeId) (xs ys : Array Value) : ∀ is : List Nat, Op.eqItems d e 1 xs ys is = Op.eqFields d xs ys (is.map (fldOf e))
  | [] => rfl
  | i :: is => by
    have ih := eqItems_fields d e xs ys is
    have hn : ("x" : String) ≠ "_" := by decide
    simp only [Op.eqItems, List.map_cons, Op.eqFields, fldOf, Nat.mul_one, ih]
    simp only [hn, ne_eq, not_false_eq_true, if_true]
def EqArr (P : Program) (zero : List V) (t : Nat) : Prop :=
  ∃ e i, P.underlying t = some (.array zero.length e) ∧ P.info? e = some i ∧ P.cellsOf e = 1 ∧ ∀ z ∈ zero, Scal P e z
theorem eqArr_run {t : Nat} {zero cs ds : List V} (ha : EqArr P zero t) (d : Nat) {xs ys : Array Value} {b : Bool} (hc : kindsOk zero cs = true) (hd : kindsOk zero ds = true) (he : eqCells cs ds = some b)
    (hx : ∀ i v, cs[i]? = some v → ∃ x, xs[0 + i]? = some x ∧ Rep w h c v x) (hy : ∀ i v, ds[i]? = some v → ∃ x, ys[0 + i]? = some x ∧ Rep w h c v x) : (Op.equalIn (d + 2) t (.agg xs) (.agg ys)).run P w = .ok b w := by
  obtain ⟨e, i, h1, h2, h3, h4⟩ := ha
  rw [run_equalIn_array w (d + 1) xs ys h1 h2, h3, eqItems_fields]
  refine eqF d xs ys _ zero cs ds 0 b (fun j f z hf hz => ?_) (by simp) hc hd he hx hy
  rw [List.getElem?_map] at hf
  have hj : j < zero.length := (List.getElem?_eq_some_iff.1 hz).1
  rw [List.getElem?_range hj, Option.map_some, Option.some.injEq] at hf
  subst hf
  exact ⟨show ("x" : String) ≠ "_" by decide, by simp [fldOf], h4 z (List.mem_of_getElem? hz)⟩

def EqFlat (P : Program) (tt : TTab) (t : Nat) : Prop :=
  P.eqGuardType P.depth t = false ∧ ((P.underlying t = some (.struct (P.fieldsOf t)) ∧ P.stoodInHeld t = false ∧ ∃ gs, gs.flatten = (tt.at t).zero ∧ NestOk P (P.fieldsOf t).toList gs 0) ∨ EqArr P (tt.at t).zero t)

def scalB (P : Program) (ty : TypeId) : V → Bool
  | .int k _ => (match P.underlying ty with | some (.int k') => decide (k' = k) | _ => false)
  | .str _ => (match P.underlying ty with | some .string => true | _ => false)
  | .bool _ => (match P.underlying ty with | some .bool => true | _ => false)
  | _ => false

theorem scalB_spec {ty : TypeId} {z : V} (h : scalB P ty z = true) : Scal P ty z := by
  unfold scalB at h
  split at h
  · split at h
    · rename_i k n _ k' hu
      have e : k' = k := by simpa using h
      subst e
      exact .inl ⟨_, _, rfl, hu⟩
    · cases h
  · split at h
    · rename_i hu; exact .inr (.inl ⟨_, rfl, hu⟩)
    · cases h
  · split at h
    · rename_i hu; exact .inr (.inr ⟨_, rfl, hu⟩)
    · cases h
  · cases h

def goodB (P : Program) : List Field → List V → Nat → Bool
  | [], [], _ => true
  | f :: fs, z :: zs, j => decide (f.name ≠ "_") && decide (f.offset = j) && scalB P f.type z && goodB P fs zs (j + 1)
  | _, _, _ => false

theorem goodB_spec : ∀ (fs : List Field) (zs : List V) (j : Nat), goodB P fs zs j = true → fs.length = zs.length ∧ ∀ i f z, fs[i]? = some f → zs[i]? = some z → f.name ≠ "_" ∧ f.offset = j + i ∧ Scal P f.type z
  | [], [], _, _ => ⟨rfl, fun i f z h => by simp at h⟩
  | [], _ :: _, _, h => by cases h
  | _ :: _, [], _, h => by cases h
  | f :: fs, z :: zs, j, h => by
    simp only [goodB, Bool.and_eq_true, decide_eq_true_eq] at h
    obtain ⟨⟨⟨h1, h2⟩, h3⟩, h4⟩ := h
    obtain ⟨g1, g2⟩ := goodB_spec fs zs (j + 1) h4
    refine ⟨by simp [g1], fun i g y hg hy => ?_⟩
    cases i with
    | zero =>
      simp at hg hy
      subst hg; subst hy
      exact ⟨h1, h2, scalB_spec h3⟩
    | succ i =>
      obtain ⟨q1, q2, q3⟩ := g2 i g y (by simpa using hg) (by simpa using hy)
      exact ⟨q1, by omega, q3⟩

def flatB (P : Program) (ty : TypeId) (g : List V) : Bool :=
  (match P.info? ty with | some _ => true | none => false) && Nat.beq (P.cellsOf ty) g.length && !P.stoodInHeld ty && goodB P (P.fieldsOf ty).toList g 0
def goodN (P : Program) : List Field → List V → Nat → Bool
  | [], zs, _ => zs.isEmpty
  | f :: fs, zs, j =>
    decide (f.name ≠ "_") && decide (f.offset = j) &&
      (match P.underlying f.type with
       | some (.struct fl) => flatB P f.type (zs.take fl.size) && goodN P fs (zs.drop fl.size) (j + fl.size)
       | _ => (match zs with | z :: zr => scalB P f.type z && goodN P fs zr (j + 1) | [] => false))

theorem goodN_spec : ∀ (fs : List Field) (zs : List V) (j : Nat), goodN P fs zs j = true → ∃ gs : List (List V), gs.flatten = zs ∧ NestOk P fs gs j
  | [], zs, j, h => ⟨[], by simpa [goodN] using h.symm, trivial⟩
  | f :: fs, zs, j, h => by
    simp only [goodN, Bool.and_eq_true, decide_eq_true_eq] at h
    obtain ⟨⟨h1, h2⟩, h3⟩ := h
    split at h3
    · rename_i fl hu
      rw [Bool.and_eq_true] at h3
      obtain ⟨g1, g2⟩ := h3
      have hfo : P.fieldsOf f.type = fl := by simp [Program.fieldsOf, hu]
      obtain ⟨gs, e1, e2⟩ := goodN_spec fs _ _ g2
      unfold flatB at g1
      simp only [Bool.and_eq_true, Bool.not_eq_true'] at g1
      obtain ⟨⟨⟨k1, k2⟩, k3⟩, k4⟩ := g1
      obtain ⟨q1, q2⟩ := goodB_spec _ _ _ k4
      have hlen : (zs.take fl.size).length = fl.size := by rw [← q1, hfo]; simp
      refine ⟨zs.take fl.size :: gs, by rw [List.flatten_cons, e1, List.take_append_drop], h1, h2, .inr ⟨by rw [hfo]; exact hu, k3, ?_, Nat.eq_of_beq_eq_true k2, q1, q2⟩, by rw [hlen]; exact e2⟩
      cases hi : P.info? f.type with
      | none => rw [hi] at k1; cases k1
      | some i => exact ⟨i, rfl⟩
    · split at h3
      · rename_i z zr
        rw [Bool.and_eq_true] at h3
        obtain ⟨gs, e1, e2⟩ := goodN_spec fs _ _ h3.2
        exact ⟨[z] :: gs, by rw [List.flatten_cons, e1]; rfl, h1, h2, .inl ⟨z, rfl, scalB_spec h3.1⟩, e2⟩
      · cases h3

theorem EqFlat.of {t : Nat} (h1 : P.underlying t = some (.struct (P.fieldsOf t))) (h2 : P.stoodInHeld t = false) (h3 : P.eqGuardType P.depth t = false) (h4 : goodN P (P.fieldsOf t).toList (tt.at t).zero 0 = true) : EqFlat P tt t :=
  ⟨h3, .inl ⟨h1, h2, goodN_spec _ _ _ h4⟩⟩
def arrB (P : Program) (e : TypeId) (zero : List V) : Bool := (match P.info? e with | some _ => true | none => false) && Nat.beq (P.cellsOf e) 1 && zero.all (scalB P e)
theorem EqFlat.ofArr {t e : Nat} (h1 : P.underlying t = some (.array (tt.at t).zero.length e)) (h3 : P.eqGuardType P.depth t = false) (h4 : arrB P e (tt.at t).zero = true) : EqFlat P tt t := by
  unfold arrB at h4
  simp only [Bool.and_eq_true] at h4
  obtain ⟨⟨g1, g2⟩, g3⟩ := h4
  refine ⟨h3, .inr ?_⟩
  cases hi : P.info? e with
  | none => rw [hi] at g1; cases g1
  | some i => exact ⟨e, i, h1, hi, Nat.eq_of_beq_eq_true g2, fun z hz => scalB_spec (List.all_eq_true.1 g3 z hz)⟩

theorem eqOk_eq {i : TI} {a b : List V} (h : eqOk i a b = true) : i.eq = true := by
  unfold eqOk at h
  simp only [Bool.and_eq_true] at h
  exact h.1.1

theorem eqs_flat {t : Nat} (e : EqFlat P tt t) {cs ds : List V} {xs ys : Array Value} {b : Bool} (hk : eqOk (tt.at t) cs ds = true) (rx : RepL w h c cs xs.toList) (ry : RepL w h c ds ys.toList) (hb : eqCells cs ds = some b) :
    P.eqGuardType P.depth t = false ∧ (Op.equalIn 10000 t (.agg xs) (.agg ys)).run P w = .ok b w := by
  obtain ⟨e3, e⟩ := e
  refine ⟨e3, ?_⟩
  unfold eqOk at hk
  simp only [Bool.and_eq_true] at hk
  have get : ∀ {cs : List V} {xs : Array Value}, RepL w h c cs xs.toList → ∀ i v, cs[i]? = some v → ∃ x, xs[0 + i]? = some x ∧ Rep w h c v x := by
    intro cs xs r i v hv
    have hi := (List.getElem?_eq_some_iff.1 hv).1
    have hl : i < xs.size := by have := r.1; simp at this; omega
    refine ⟨xs[i], by simp [hl], r.2 i v _ hv (by simp [hl])⟩
  rcases e with ⟨e1, e2, gs, e4, e5⟩ | e
  · rw [run_equalIn_struct w 9999 t xs ys e1 e2]
    exact eqG 9997 xs ys _ gs cs ds 0 b e5 (by rw [e4]; exact hk.1.2) (by rw [e4]; exact hk.2) hb (get rx) (get ry)
  · exact eqArr_run e 9998 hk.1.2 hk.2 hb (get rx) (get ry)
end

section
variable {R : Type} {P : Program} {tt : TTab}

mutual
def Json.depth : Json → Nat
  | ⟨_, _, _, _, l⟩ => Json.depthL l + 1
def Json.depthL : List Json → Nat
  | [] => 0
  | x :: l => max x.depth (Json.depthL l)
end
mutual
def Raw.depth : Raw → Nat
  | ⟨_, _, _, _, l⟩ => Raw.depthL l + 1
def Raw.depthL : List Raw → Nat
  | [] => 0
  | x :: l => max x.depth (Raw.depthL l)
end

def Dcm.fu (x : Dcm) : Nat := x.mant.natAbs + x.exp.natAbs
def Json.fu (x : Json) : Nat := x.text.length + x.names.length + x.items.length
def Raw.fu (x : Raw) : Nat := x.text.length + x.items.length
def Raw3.fu (x : Raw3) : Nat := x.kind.natAbs + x.mant.natAbs + x.exp.natAbs + x.text.length
def Fld.fu (x : Fld) : Nat := x.name.length
def Mail.fu (x : Mail) : Nat := x.topic.length + x.data.length
def Token.fu (x : Token) : Nat := x.text.length
def Stop.fu (x : Stop) : Nat := 0
def Way.fu (x : Way) : Nat := 0
def Order.fu (x : Order) : Nat := x.header.natAbs + x.vehicle.length + x.order.natAbs + x.update.natAbs + x.nodes.length + x.edges.length
def Edge.fu (x : Edge) : Nat := 0
def Layout.fu (x : Layout) : Nat := x.nodes.natAbs + x.edges.length
def Topic.fu (x : Topic) : Nat := x.maker.length + x.serial.length + x.kind.length
def State.fu (x : State) : Nat := x.header.natAbs + x.boot.natAbs + x.vehicle.length + x.order.natAbs + x.update.natAbs + x.node.natAbs + x.seq.natAbs + x.accepted.natAbs
def Ctl.fu (x : Ctl) : Nat := x.vehicle.length + x.header.natAbs + x.order.natAbs + x.update.natAbs + x.boot.natAbs + x.seen.natAbs + x.path.length + x.seq.natAbs + x.rel.natAbs + x.pending.header.natAbs + x.pending.vehicle.length + x.pending.order.natAbs + x.pending.update.natAbs + x.pending.nodes.length + x.pending.edges.length
def Op17.fu (x : Op17) : Nat := x.kind.natAbs + x.i.natAbs + x.k.natAbs + x.by_.natAbs + x.data.length
def Raw13.fu (x : Raw13) : Nat := x.header.natAbs + x.order.natAbs + x.update.natAbs + x.seq.natAbs + x.from_.natAbs + x.released.natAbs + x.turns.length
def Ev16.fu (x : Ev16) : Nat := x.kind.natAbs + x.o.header.natAbs + x.o.order.natAbs + x.o.update.natAbs + x.o.seq.natAbs + x.o.from_.natAbs + x.o.released.natAbs + x.o.turns.length + x.data.length
def Ev18.fu (x : Ev18) : Nat := x.kind.natAbs + x.n.natAbs + x.turns.length
def Arr3.fu (x : Arr3) : Nat := x.a.natAbs + x.b.natAbs + x.c.natAbs
def Arr2.fu (x : Arr2) : Nat := x.a.natAbs + x.b.natAbs
def Dec2.fu (x : Dec2) : Nat := x.a.mant.natAbs + x.a.exp.natAbs + x.b.mant.natAbs + x.b.exp.natAbs
def Post.fu (x : Post) : Nat := x.name.length + x.home.natAbs
def Job.fu (x : Job) : Nat := x.id.natAbs + x.target.natAbs + x.state.natAbs + x.vehicle.natAbs
def Record.fu (x : Record) : Nat := x.kind.natAbs + x.nums.length + x.text.length

theorem loop_tie {D : Type} {E : Env R} {L : Nat → Option (Hint × LSpec R)} {m : Nat} {a : Code} {hint : Hint} (enc : D → St)
    (s : (Ex → St → Option R) → (D → Option R) → D → Option R) (A : (Ex → St → Option R) → Nat → D → Option R)
    (h0 : ∀ K d, A K 0 d = none)
    (hB : ∀ K rec' d, roundOf tt E L m a hint (enc d) rec' K = s K (fun d => rec' (enc d)) d)
    (hA : ∀ K n d, A K (n + 1) d = s K (A K n) d) (K : Ex → St → Option R) :
    ∀ n d, loopN (interp tt E L m a) (norm m hint) n (enc d) (fun e st => K e (trim m hint st)) = A K n d
  | 0, d => (h0 K d).symm
  | n + 1, d => by
    rw [loopN_succ, hB, hA]
    exact congrArg (fun q => s K q d) (funext fun d => loop_tie enc s A h0 hB hA K n d)

theorem loopBy_tie {D : Type} {E : Env R} {L : Nat → Option (Hint × LSpec R)} {m : Nat} {a : Code} {hint : Hint} {ps : List Pat} {hs : List HPat}
    {run : Pat.dens ps → HPat.dens hs → (Ex → St → Option R) → Option R} {other : LSpec R} {enc : D → St} {A : (Ex → St → Option R) → Nat → D → Option R}
    (ho : LsOk tt E L m a hint other)
    (tie : ∀ K n d, loopN (interp tt E L m a) (norm m hint) n (enc d) (fun e st => K e (trim m hint st)) = A K n d)
    (fuel : Pat.dens ps → HPat.dens hs → Nat) (dat : Pat.dens ps → HPat.dens hs → D)
    (henc : ∀ x y, (⟨Pat.encL ps x, HPat.encL hs y⟩ : St) = enc (dat x y))
    (hrun : ∀ x y K, run x y K = A K (fuel x y) (dat x y)) : LsOk tt E L m a hint (loopBy ps hs run other) :=
  loopBy_ok ho fun x y K => ⟨fuel x y, by rw [henc, hrun]; exact tie K _ _⟩

end
end Go.Yard

