/-
  The abstract interpreter, part 19: append: rows of ours; the theorem. Own work.
-/
import Derived.Test.YtcocpfgemdkkfaaAiAppend
namespace Go.Yard
open Go.RowKit

section
variable {P : Program} {tt : TTab} {w w' : World} {h : Heap} {c : Cfg} {R : Type}

theorem row_of_cells {T : Ty} {l : List T.den} {us : List Value} (r : RepL w h c (cellsL T l) us) {arr : Array Value} {off : Nat} (ha : ∀ (k : Nat) (d : Value), us[k]? = some d → arr[off + k]? = some d) :
    ∀ (n j : Nat) (x : T.den) (v : V), l[n]? = some x → (T.cells x)[j]? = some v → ∃ d, arr[off + n * T.sz + j]? = some d ∧ Rep w h c v d := by
  intro n j z v hz hv
  have hj : j < T.sz := by rw [← T.cells_len z]; exact (List.getElem?_eq_some_iff.1 hv).1
  have hn : n < l.length := (List.getElem?_eq_some_iff.1 hz).1
  have hlt : n * T.sz + j < l.length * T.sz := by
    have := Nat.mul_le_mul_right T.sz hn
    rw [Nat.succ_mul] at this; omega
  have hl := r.1
  rw [cellsL_len] at hl
  have hg := List.getElem?_eq_getElem (show n * T.sz + j < us.length by omega)
  exact ⟨_, by rw [Nat.add_assoc]; exact ha _ _ hg, r.2 _ v _ ((cellsL_get T l n j z hz hj).trans hv) hg⟩

/-- Behind an append in place: the row goes on under a new name. -/
theorem fit_row (wf : WF w h c) {i id : Nat} {T : Ty} {l m : List T.den} (hi : h.at i = .row T l) (hid : id < h.length) (hf : h.at id = .free) {b : Nat} (hb : c.blk i = some b)
    {arr cur' : Array Value} {el : TypeId} {fz : Nat × Nat} (harr : w.heap[b]? = some (.cells arr el fz)) (hw : Wrote w w' b cur' el fz) {cap : Nat} (hcap : (l ++ m).length ≤ cap) (hmx : cap ≤ mx) (hsz : c.off i + cap * T.sz ≤ arr.size)
    {olds news : List Value} (ro : RepL w h c (cellsL T l) olds) (rn : RepL w h c (cellsL T m) news) (hold : l ≠ [] → CellsAt w b (c.off i) olds)
    (hcur : cur'.toList = arr.toList.take (c.off i + l.length * T.sz) ++ news ++ arr.toList.drop (c.off i + l.length * T.sz + news.length)) :
    ∃ c', WF w' ((h.set i .dead).set id (.row T (l ++ m))) c' ∧ Ext w h c w' ((h.set i .dead).set id (.row T (l ++ m))) c' ∧
      Rep w' ((h.set i .dead).set id (.row T (l ++ m))) c' (.row id (l ++ m).length) (.slice (some ⟨b, c.off i, none⟩) (l ++ m).length cap) := by
  have hne : i ≠ id := by rintro rfl; rw [hi] at hf; cases hf
  have hil := Heap.at_live hi (by simp)
  have hlen1 := ro.1
  have hlen2 := rn.1
  rw [cellsL_len] at hlen1 hlen2
  have hmul : (l ++ m).length * T.sz ≤ cap * T.sz := Nat.mul_le_mul_right _ hcap
  have hlm : (l ++ m).length * T.sz = l.length * T.sz + m.length * T.sz := by rw [List.length_append, Nat.add_mul]
  have hcs : cur'.size = arr.size := by
    rw [← Array.length_toList, hcur]; simp only [List.length_append, List.length_take, List.length_drop, Array.length_toList]; omega
  have hat : ∀ j, Heap.at ((h.set i .dead).set id (.row T (l ++ m))) j = if id = j then .row T (l ++ m) else if i = j then .dead else h.at j := by
    intro j
    rw [at_set, at_set]
    by_cases h1 : id = j
    · simp [h1]; intro h2; subst h1; omega
    · simp only [h1, false_and, if_false]
      by_cases h2 : i = j
      · subst h2; simp [hil]
      · simp [h2]
  have hc' : ∀ j, j ≠ id → (c.put id (some b) (c.off i)).blk j = c.blk j ∧ (c.put id (some b) (c.off i)).off j = c.off j := fun j hj => ⟨put_blk_ne _ _ hj, put_off_ne _ _ hj⟩
  have hoth : ∀ j, j ≠ i → (h.at j).live → c.blk j ≠ some b := fun j hj hl hbj => hj (wf.inj j i b hl (by rw [hi]; trivial) hbj hb)
  have hown : ∀ y, Owns h c b y := fun y => ⟨i, 0, hb, by rw [hi]; rfl, Nat.zero_le _⟩
  have howns : ∀ b' x, Owns ((h.set i .dead).set id (.row T (l ++ m))) (c.put id (some b) (c.off i)) b' x → Owns h c b' x := by
    rintro b' x ⟨j, f, g1, g2, g3⟩
    rw [hat] at g2
    by_cases h1 : id = j
    · subst h1
      rw [put_blk_eq] at g1
      cases g1
      exact hown x
    · rw [if_neg h1] at g2
      split at g2
      · simp [AObj.from_] at g2
      · obtain ⟨e1, e2⟩ := hc' j (Ne.symm h1)
        rw [e1] at g1; rw [e2] at g2
        exact ⟨j, f, g1, g2, g3⟩
  have x : Ext w h c w' ((h.set i .dead).set id (.row T (l ++ m))) (c.put id (some b) (c.off i)) := by
    constructor
    · exact hw.os
    · exact hw.tape
    · exact hw.output
    · rw [hw.size]; exact Nat.le_refl _
    · intro j hj
      refine ⟨by simpa using hj.1, ?_⟩
      rw [hat]
      split
      · simp
      · split
        · simp
        · exact hj.2
    · intro j hj hd
      have hjid : id ≠ j := by rintro rfl; exact hj.2 hf
      rw [hat, if_neg hjid] at hd ⊢
      split
      · rename_i h2; rw [if_pos h2] at hd; exact absurd rfl hd
      · rename_i h2
        rw [if_neg h2] at hd
        refine ⟨?_, (hc' j (Ne.symm hjid)).1, (hc' j (Ne.symm hjid)).2⟩
        have h3 := hj.2
        revert hd h3
        cases h.at j <;> simp [AObj.sim]
    · intro b' y hy ho
      have hbb : b' ≠ b := by rintro rfl; exact ho (hown y)
      exact blocks_cell (hw.other b' hbb)
    · intro b' hb' ho
      have hbb : b' ≠ b := by rintro rfl; exact ho 0 (hown 0)
      exact hw.other b' hbb
    · intro b' y _ ho; exact howns b' y ho
    · rfl
    · intro b' arr' e' fz' ha
      by_cases hbb : b' = b
      · subst hbb
        rw [harr] at ha; cases ha
        exact ⟨cur', fz, hw.here, hcs⟩
      · exact ⟨arr', fz', by rw [hw.other b' hbb]; exact ha, rfl⟩
  obtain ⟨fl, fh⟩ := fz
  have hti := wf.obj i hil
  rw [hi] at hti
  have hfz : ∀ y, y < arr.size → w.frozen? ⟨b, y, none⟩ = false := by
    rcases hti with ⟨h0, _⟩ | ⟨b', arr', e', fz', p1, p2, p3, p4, p5⟩
    · rw [hb] at h0; cases h0
    · rw [hb] at p1; cases p1
      rw [harr] at p2; cases p2
      exact p4
  have rr : RepL w' ((h.set i .dead).set id (.row T (l ++ m))) (c.put id (some b) (c.off i)) (cellsL T (l ++ m)) (olds ++ news) := by
    rw [cellsL_append]; exact (ro.mono x).append (rn.mono x)
  have hcells : ∀ (k : Nat) (d : Value), (olds ++ news)[k]? = some d → cur'[c.off i + k]? = some d := by
    intro k d hd
    have l1 : (arr.toList.take (c.off i + l.length * T.sz)).length = c.off i + l.length * T.sz := by simp only [List.length_take, Array.length_toList]; omega
    rw [← Array.getElem?_toList, hcur, List.append_assoc]
    by_cases hk : k < olds.length
    · rw [List.getElem?_append_left hk] at hd
      have hlne : l ≠ [] := by rintro rfl; simp at hlen1; omega
      have hc1 := hold hlne k d hd
      rw [cell_of_row w b _ arr el (fl, fh) harr] at hc1
      rw [List.getElem?_append_left (by omega), List.getElem?_take, if_pos (by omega), Array.getElem?_toList]
      exact hc1
    · rw [List.getElem?_append_right (by omega)] at hd
      have hj2 : k - olds.length < news.length := (List.getElem?_eq_some_iff.1 hd).1
      rw [List.getElem?_append_right (by omega), l1, List.getElem?_append_left (by omega)]
      rw [← hd]; congr 1; omega
  have wf' : WF w' ((h.set i .dead).set id (.row T (l ++ m))) (c.put id (some b) (c.off i)) := by
    constructor
    · intro b' y ho; exact wf.disj b' y (howns b' y ho)
    · intro b' y he; rw [hw.size]; exact wf.extlt b' y he
    · intro j hj
      rw [hat]
      by_cases h1 : id = j
      · subst h1
        rw [if_pos rfl]
        refine .inr ⟨b, cur', el, (fl, fh), put_blk_eq _ _ _, hw.here, by rw [put_off_eq]; omega, fun y h1 => ?_, ?_⟩
        · have := hfz y (by omega)
          rw [frozen_of harr] at this
          rw [frozen_of hw.here]; exact this
        · rw [put_off_eq]; exact row_of_cells rr hcells
      · rw [if_neg h1]
        split
        · trivial
        · rename_i h2
          by_cases hl : (h.at j).live
          · refine (wf.obj j (by simpa using hj)).keep x (fun b' hb' => hw.other b' ?_) (hc' j (Ne.symm h1)).1 (hc' j (Ne.symm h1)).2
            rintro rfl
            exact hoth j (Ne.symm h2) hl hb'
          · revert hl; cases h.at j <;> simp [AObj.live, ObjOK]
    · intro j k b' hj hk h1 h2
      rw [hat] at hj hk
      by_cases e1 : id = j <;> by_cases e2 : id = k
      · exact e1.symm.trans e2
      · subst e1
        rw [put_blk_eq] at h1; cases h1
        rw [if_neg e2] at hk
        rw [(hc' k (Ne.symm e2)).1] at h2
        split at hk
        · exact hk.elim
        · rename_i h3; exact absurd h2 (hoth k (Ne.symm h3) hk)
      · subst e2
        rw [put_blk_eq] at h2; cases h2
        rw [if_neg e1] at hj
        rw [(hc' j (Ne.symm e1)).1] at h1
        split at hj
        · exact hj.elim
        · rename_i h3; exact absurd h1 (hoth j (Ne.symm h3) hj)
      · rw [if_neg e1] at hj
        rw [if_neg e2] at hk
        rw [(hc' j (Ne.symm e1)).1] at h1
        rw [(hc' k (Ne.symm e2)).1] at h2
        split at hj
        · exact hj.elim
        · split at hk
          · exact hk.elim
          · exact wf.inj j k b' hj hk h1 h2
  refine ⟨_, wf', x, .row ⟨by simpa using hid, by rw [hat, if_pos rfl]; simp⟩ (by omega) ⟨_, _, rfl, fun _ => ⟨_, rfl⟩, fun T' l' he => ?_⟩⟩
  rw [hat, if_pos rfl] at he
  cases he
  exact ⟨rfl, hcap, hmx, .inr ⟨b, cur', el, (fl, fh), put_blk_eq _ _ _, by rw [put_off_eq], hw.here, by rw [put_off_eq, hcs]; exact hsz⟩⟩

/-- What a write leaves. -/
def Writes (P : Program) (w : World) (h : Heap) (c : Cfg) (s : Sem Value) (k : V → Heap → Option R) (r : R) : Prop :=
  ∃ v h' v' w' c', s.run P w = .ok v' w' ∧ WF w' h' c' ∧ Ext w h c w' h' c' ∧ Rep w' h' c' v v' ∧ k v h' = some r

theorem append_sound (T : TOK P tt) (wf : WF w h c) {t xt e id : Nat} (ht : (tt.at t).d = .slice e) (hxt : (∃ e', P.underlying xt = some (.slice e')) ∨ P.underlying xt = some .string) {s x : V} {s' x' : Value}
    (rs : Rep w h c s s') (rx : Rep w h c x x') (hid : id < h.length) (hf : h.at id = .free) (ty : Nat) {k : V → Heap → Option R} {r : R} (hk : appendK tt e s x h id k = some r) :
    Writes P w h c (Builtin.append_ #[t, xt] ty #[s', x']) k r := by
  unfold appendK at hk
  split at hk <;> try (first | cases hk)
  rename_i T' hty
  split at hk <;> try (first | cases hk)
  rename_i hcond
  simp only [Bool.and_eq_true, decide_eq_true_eq, bne_iff_ne, ne_eq] at hcond
  obtain ⟨⟨hsz, hnz⟩, hok⟩ := hcond
  split at hk <;> try (first | cases hk)
  rename_i m hsrc
  obtain ⟨news, n1, n2, n3, n4⟩ := src_sound (P := P) wf hsz rx hsrc
  have hnl := n3.1
  rw [cellsL_len, hsz] at hnl
  have hones := ones_of n3 (cellsL_one T' m)
  have hbig : ∀ n : Nat, (n + m.length) * (tt.at e).bytes ≤ 140737488355328 → n + m.length ≤ mx := fun n hb => by
    have : n + m.length ≤ (n + m.length) * (tt.at e).bytes := Nat.le_mul_of_pos_right _ (by omega)
    unfold mx; omega
  have fromNil : ((0 + m.length) * (tt.at e).bytes ≤ 140737488355328) → k (.sl T' m (.own id)) (h.set id .tok) = some r → Writes P w h c (Builtin.append_ #[t, xt] ty #[.slice none 0 0, x']) k r := by
    intro hroom hk
    have := run_append_gen (P := P) (w := w) (A := none) (n := 0) (cap := 0) (m := m.length) (x := x') (olds := []) (news := news) T ht hok hxt ty n1 n2 hnl.symm hones (by simp) (fun h => absurd rfl h) (Nat.le_refl _) (by unfold mx; omega) (.inl ⟨rfl, rfl⟩) hroom (by omega)
    rcases this with ⟨h1, _, hm0, hrun⟩ | ⟨_, b, o, arr, el, fz, w', cur', hA, _⟩ | ⟨cap, ds, h1, h2, h3, h4, hrun⟩
    · have hm : m = [] := List.eq_nil_of_length_eq_zero hm0
      subst hm
      obtain ⟨c', g1, g2, g3⟩ := none_tok wf hid hf (T := T')
      exact ⟨_, _, _, w, c', hrun, g1, g2, g3, hk⟩
    · cases hA
    · rw [Nat.zero_add] at h1 h4 hrun
      rw [← hsz] at h3 h4
      obtain ⟨c', g1, g2, g3⟩ := grown_tok wf hid hf n3 h3 (by simpa using h4) h1 h2 (e := e)
      exact ⟨_, _, _, _, c', hrun, g1, g2, g3, hk⟩
  have rowNil : ((0 + m.length) * (tt.at e).bytes ≤ 140737488355328) → k (.row id m.length) (h.set id (.row T' m)) = some r → Writes P w h c (Builtin.append_ #[t, xt] ty #[.slice none 0 0, x']) k r := by
    intro hroom hk
    have := run_append_gen (P := P) (w := w) (A := none) (n := 0) (cap := 0) (m := m.length) (x := x') (olds := []) (news := news) T ht hok hxt ty n1 n2 hnl.symm hones (by simp) (fun h => absurd rfl h) (Nat.le_refl _) (by unfold mx; omega) (.inl ⟨rfl, rfl⟩) hroom (by omega)
    rcases this with ⟨h1, _, hm0, hrun⟩ | ⟨_, b, o, arr, el, fz, w', cur', hA, _⟩ | ⟨cap, ds, h1, h2, h3, h4, hrun⟩
    · have hm : m = [] := List.eq_nil_of_length_eq_zero hm0
      subst hm
      obtain ⟨c', g1, g2, g3⟩ := none_row wf hid hf (T := T')
      exact ⟨_, _, _, w, c', hrun, g1, g2, g3, hk⟩
    · cases hA
    · rw [Nat.zero_add] at h1 h4 hrun
      rw [← hsz] at h3 h4
      obtain ⟨c', g1, g2, g3⟩ := grown_row wf hid hf n3 h3 (by simpa using h4) h1 h2 (e := e)
      exact ⟨_, _, _, _, c', hrun, g1, g2, g3, hk⟩
  split at hk <;> try (first | cases hk)
  · obtain ⟨hroom, hk⟩ := chk_some hk
    cases rs
    split at hk
    · exact rowNil (by simpa using hroom) hk
    · exact fromNil (by simpa using hroom) hk
  · rename_i T'' l tk
    split at hk <;> try (first | cases hk)
    rename_i q
    subst q
    simp only at hk
    split at hk <;> try (first | cases hk)
    · obtain ⟨hroom, hk⟩ := chk_some hk
      cases rs with
      | sl f hcap hmx hc hr hnil hown =>
        obtain ⟨rfl, rfl⟩ := hnil rfl
        have hl0 : l = [] := List.eq_nil_of_length_eq_zero (by omega)
        subst hl0
        exact fromNil (by simpa using hroom) hk
    · rename_i i
      split at hk <;> try (first | cases hk)
      rename_i htok
      obtain ⟨hroom, hk⟩ := chk_some hk
      have hroom' : (l.length + m.length) * (tt.at e).bytes ≤ 140737488355328 := by simpa using hroom
      have hne : i ≠ id := by rintro rfl; rw [htok] at hf; cases hf
      have hid1 : id < (h.set i .dead).length := by simpa using hid
      have hf1 : Heap.at (h.set i .dead) id = .free := by rw [at_set_ne _ hne]; exact hf
      obtain ⟨A, cap, rfl, hcap, hmx⟩ := sl_inv rs
      obtain ⟨olds, ro, ho⟩ := sl_cells rs
      have hol := ro.1
      rw [cellsL_len, hsz] at hol
      have hown : (c.blk i = none ∧ A = none ∧ cap = 0) ∨ ∃ b o arr e fz, c.blk i = some b ∧ A = some ⟨b, o, none⟩ ∧ c.off i = o + l.length * T''.sz ∧ w.heap[b]? = some (.cells arr e fz) ∧ o + cap * T''.sz ≤ arr.size := by
        cases rs with
        | sl f hcap hmx hc hr hnil hown => exact (hown i rfl).2 htok
      have hobj := wf.obj i (Heap.at_live htok (by simp))
      rw [htok] at hobj
      have hA : (A = none ∧ cap = 0) ∨ ∃ b o arr el fz, A = some ⟨b, o, none⟩ ∧ w.heap[b]? = some (.cells arr el fz) ∧ o + cap * (tt.at e).size ≤ arr.size ∧ ∀ y, o + l.length * (tt.at e).size ≤ y → y < arr.size → w.frozen? ⟨b, y, none⟩ = false := by
        rcases hown with ⟨_, h1, h2⟩ | ⟨b, o, arr, el, fz, g1, g2, g3, g4, g5⟩
        · exact .inl ⟨h1, h2⟩
        · refine .inr ⟨b, o, arr, el, fz, g2, g4, by rw [← hsz]; exact g5, ?_⟩
          rcases hobj with h0 | ⟨b', arr', e', fz', p1, p2, p3, p4⟩
          · rw [g1] at h0; cases h0
          · rw [g1] at p1; cases p1
            rw [g4] at p2; cases p2
            intro y h1 h2
            exact p4 y (by rw [g3, hsz]; exact h1) h2
      have := run_append_gen (P := P) (w := w) (n := l.length) (olds := olds) T ht hok hxt ty n1 n2 hnl.symm hones hol.symm (fun hn => by
        obtain ⟨b, o, q1, q2, _⟩ := ho (by rintro rfl; exact hn rfl)
        exact ⟨b, o, q1, q2⟩) hcap hmx hA hroom' (hbig _ hroom')
      have k1 := kill_ext (w := w) (h := h) (c := c) i
      have k2 := kill_wf wf i
      rcases this with ⟨h1, hA0, hm0, hrun⟩ | ⟨hfit, b, o, arr, el, fz, w', cur', hA1, harr, hsz1, hrun, hw, hcur⟩ | ⟨cap', ds, h1, h2, h3, h4, hrun⟩
      · have hm : m = [] := List.eq_nil_of_length_eq_zero hm0
        subst hm
        have hl0 : l = [] := by
          rcases hown with ⟨_, _, hc0⟩ | ⟨b, o, arr, el, fz, _, g2, _⟩
          · exact List.eq_nil_of_length_eq_zero (by omega)
          · rw [g2] at hA0; cases hA0
        subst hl0
        have hc0 : cap = 0 := by
          rcases hown with ⟨_, _, hc0⟩ | ⟨b, o, arr, el, fz, _, g2, _⟩
          · exact hc0
          · rw [g2] at hA0; cases hA0
        subst hc0
        subst hA0
        obtain ⟨c', g1, g2, g3⟩ := none_tok k2 hid1 hf1 (T := T'')
        exact ⟨_, _, _, w, c', hrun, g1, k1.trans g2, g3, hk⟩
      · rcases hown with ⟨_, hA2, _⟩ | ⟨b', o', arr', el', fz', g1, g2, g3, g4, g5⟩
        · rw [hA2] at hA1; cases hA1
        · rw [g2] at hA1; cases hA1
          rw [g4] at harr; cases harr
          subst g2
          have hlen : (l ++ m).length = l.length + m.length := List.length_append
          obtain ⟨c', q1, q2, q3⟩ := fit_tok (l := l) (m := m) wf htok hid hf g1 g3 g4 hw (by omega) hmx g5 ro n3 (fun hne => by
            obtain ⟨b2, o2, p1, p2, _⟩ := ho hne
            cases p1; exact p2) (fun y y1 y2 => by
            by_cases hne : l = []
            · subst hne; simp at y2; omega
            · obtain ⟨b2, o2, p1, _, p3⟩ := ho hne
              cases p1; exact p3 y y1 y2) (by rw [hsz]; exact hcur)
          rw [hlen] at q3
          exact ⟨_, _, _, w', c', hrun, q1, q2, q3, hk⟩
      · have hlen : (l ++ m).length = l.length + m.length := List.length_append
        obtain ⟨c', q1, q2, q3⟩ := grown_tok (l := l ++ m) k2 hid1 hf1 (by rw [cellsL_append]; exact (ro.mono k1).append (n3.mono k1)) (by rw [hsz]; exact h3) (by rw [hlen, hsz]; exact h4) (by omega) h2 (e := e)
        rw [hlen] at q3
        exact ⟨_, _, _, _, c', hrun, q1, k1.trans q2, q3, hk⟩
  · rename_i i n
    split at hk <;> try (first | cases hk)
    rename_i T'' l hrow
    split at hk <;> try (first | cases hk)
    rename_i q
    subst q
    obtain ⟨hroom, hk⟩ := chk_some hk
    simp only at hk
    have hroom' : (l.length + m.length) * (tt.at e).bytes ≤ 140737488355328 := by simpa using hroom
    have hne : i ≠ id := by rintro rfl; rw [hrow] at hf; cases hf
    have hid1 : id < (h.set i .dead).length := by simpa using hid
    have hf1 : Heap.at (h.set i .dead) id = .free := by rw [at_set_ne _ hne]; exact hf
    obtain ⟨olds, ro, ho⟩ := row_all wf hrow
    have hol := ro.1
    rw [cellsL_len, hsz] at hol
    have hobj := wf.obj i (Heap.at_live hrow (by simp))
    rw [hrow] at hobj
    cases rs with
    | row hu hn hv =>
      obtain ⟨A, cap, rfl, hA0, hv⟩ := hv
      obtain ⟨hnl', hcap, hmx, hown⟩ := hv _ _ hrow
      subst hnl'
      have hA : (A = none ∧ cap = 0) ∨ ∃ b o arr el fz, A = some ⟨b, o, none⟩ ∧ w.heap[b]? = some (.cells arr el fz) ∧ o + cap * (tt.at e).size ≤ arr.size ∧ ∀ y, o + l.length * (tt.at e).size ≤ y → y < arr.size → w.frozen? ⟨b, y, none⟩ = false := by
        rcases hown with ⟨_, h1, h2⟩ | ⟨b, arr, el, fz, g1, g2, g4, g5⟩
        · exact .inl ⟨h1, h2⟩
        · refine .inr ⟨b, c.off i, arr, el, fz, g2, g4, by rw [← hsz]; exact g5, ?_⟩
          rcases hobj with ⟨h0, _⟩ | ⟨b', arr', e', fz', p1, p2, p3, p4, _⟩
          · rw [g1] at h0; cases h0
          · rw [g1] at p1; cases p1
            rw [g4] at p2; cases p2
            intro y _ h2
            exact p4 y h2
      have := run_append_gen (P := P) (w := w) (n := l.length) (olds := olds) T ht hok hxt ty n1 n2 hnl.symm hones hol.symm (fun hn => by
        obtain ⟨b, q1, q2⟩ := ho (by rintro rfl; exact hn rfl)
        rcases hown with ⟨p1, _⟩ | ⟨b', arr, el, fz, p1, p2, _⟩
        · rw [q1] at p1; cases p1
        · rw [q1] at p1; cases p1
          exact ⟨b, _, p2, q2⟩) hcap hmx hA hroom' (hbig _ hroom')
      have k1 := kill_ext (w := w) (h := h) (c := c) i
      have k2 := kill_wf wf i
      have hlen : (l ++ m).length = l.length + m.length := List.length_append
      rcases this with ⟨h1, hAn, hm0, hrun⟩ | ⟨hfit, b, o, arr, el, fz, w', cur', hA1, harr, hsz1, hrun, hw, hcur⟩ | ⟨cap', ds, h1, h2, h3, h4, hrun⟩
      · have hm : m = [] := List.eq_nil_of_length_eq_zero hm0
        subst hm
        have hc0 : cap = 0 := by
          rcases hown with ⟨_, _, hc0⟩ | ⟨b, arr, el, fz, _, g2, _⟩
          · exact hc0
          · rw [g2] at hAn; cases hAn
        have hl0 : l = [] := List.eq_nil_of_length_eq_zero (by omega)
        subst hl0
        subst hc0
        subst hAn
        obtain ⟨c', g1, g2, g3⟩ := none_row k2 hid1 hf1 (T := T'')
        exact ⟨_, _, _, w, c', hrun, g1, k1.trans g2, g3, hk⟩
      · rcases hown with ⟨_, hA2, _⟩ | ⟨b', arr', el', fz', g1, g2, g4, g5⟩
        · rw [hA2] at hA1; cases hA1
        · rw [g2] at hA1; cases hA1
          rw [g4] at harr; cases harr
          subst g2
          obtain ⟨c', q1, q2, q3⟩ := fit_row (l := l) (m := m) wf hrow hid hf g1 g4 hw (by omega) hmx g5 ro n3 (fun hne => by
            obtain ⟨b2, p1, p2⟩ := ho hne
            rw [g1] at p1; cases p1; exact p2) (by rw [hsz]; exact hcur)
          rw [hlen] at q3
          exact ⟨_, _, _, w', c', hrun, q1, q2, q3, hk⟩
      · obtain ⟨c', q1, q2, q3⟩ := grown_row (l := l ++ m) k2 hid1 hf1 (by rw [cellsL_append]; exact (ro.mono k1).append (n3.mono k1)) (by rw [hsz]; exact h3) (by rw [hlen, hsz]; exact h4) (by omega) h2 (e := e)
        rw [hlen] at q3
        exact ⟨_, _, _, _, c', hrun, q1, k1.trans q2, q3, hk⟩
end
end Go.Yard
