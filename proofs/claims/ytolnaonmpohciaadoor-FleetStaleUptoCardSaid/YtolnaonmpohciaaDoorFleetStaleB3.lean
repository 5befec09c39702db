/-
  FleetStale: for every input whose bulk is at most 1048576 the law returns true, and each argument reads behind the call as it read before; part 3 of 9 of the proof: an interpreter of the model's code over typed data, proved sound; the functions that the law reaches, printed as Lean functions and tied; the plain law. Own texts laid one behind the other.
-/
import Derived.MapKept
import Derived.Calls
import Derived.Orders
import Derived.Test.YtolnaonmpohciaaDoorFleetStaleB2
set_option linter.unusedSimpArgs false
set_option linter.unnecessarySimpa false
set_option linter.unusedVariables false
set_option linter.unusedSectionVars false
namespace Go.Yard
open Go.RowKit

section
variable {P : Program} {tt : TTab} {w w' : World} {h : Heap} {c : Cfg} {R : Type}

theorem row_of_cells {T : Ty} {l : List T.den} {us : List Value} (r : RepL w h c (cellsL T l) us) {arr : Array Value} {off : Nat} (ha : ∀ (k : Nat) (d : Value), us[k]? = some d → arr[off + k]? = some d) :
    ∀ (n j : Nat) (x : T.den) (v : V), l[n]? = some x → (T.cells x)[j]? = some v → ∃ d, arr[off + n * T.sz + j]? = some d ∧ Rep w h c v d := by
  intro n j z v hz hv
  have hj : j < T.sz := by rw [← T.cells_len z]; exact (List.getElem?_eq_some_iff.1 hv).1
  have hn : n < l.length := (List.getElem?_eq_some_iff.1 hz).1
  have hlt : n * T.sz + j < l.length * T.sz := by
    have := Nat.mul_le_mul_right T.sz hn
    rw [Nat.succ_mul] at this; omega
  have hl := r.1
  rw [cellsL_len] at hl
  have hg := List.getElem?_eq_getElem (show n * T.sz + j < us.length by omega)
  exact ⟨_, by rw [Nat.add_assoc]; exact ha _ _ hg, r.2 _ v _ ((cellsL_get T l n j z hz hj).trans hv) hg⟩

theorem fit_row (wf : WF w h c) {i id : Nat} {T : Ty} {l m : List T.den} (hi : h.at i = .row T l) (hid : id < h.length) (hf : h.at id = .free) {b : Nat} (hb : c.blk i = some b)
    {arr cur' : Array Value} {el : TypeId} {fz : Nat × Nat} (harr : w.heap[b]? = some (.cells arr el fz)) (hw : Wrote w w' b cur' el fz) {cap : Nat} (hcap : (l ++ m).length ≤ cap) (hmx : cap ≤ mx) (hsz : c.off i + cap * T.sz ≤ arr.size)
    {olds news : List Value} (ro : RepL w h c (cellsL T l) olds) (rn : RepL w h c (cellsL T m) news) (hold : l ≠ [] → CellsAt w b (c.off i) olds)
    (hcur : cur'.toList = arr.toList.take (c.off i + l.length * T.sz) ++ news ++ arr.toList.drop (c.off i + l.length * T.sz + news.length)) :
    ∃ c', WF w' ((h.set i .dead).set id (.row T (l ++ m))) c' ∧ Ext w h c w' ((h.set i .dead).set id (.row T (l ++ m))) c' ∧
      Rep w' ((h.set i .dead).set id (.row T (l ++ m))) c' (.row id (l ++ m).length) (.slice (some ⟨b, c.off i, none⟩) (l ++ m).length cap) := by
  have hne : i ≠ id := by rintro rfl; rw [hi] at hf; cases hf
  have hil := Heap.at_live hi (by simp)
  have hlen1 := ro.1
  have hlen2 := rn.1
  rw [cellsL_len] at hlen1 hlen2
  have hmul : (l ++ m).length * T.sz ≤ cap * T.sz := Nat.mul_le_mul_right _ hcap
  have hlm : (l ++ m).length * T.sz = l.length * T.sz + m.length * T.sz := by rw [List.length_append, Nat.add_mul]
  have hcs : cur'.size = arr.size := by
    rw [← Array.length_toList, hcur]; simp only [List.length_append, List.length_take, List.length_drop, Array.length_toList]; omega
  have hat : ∀ j, Heap.at ((h.set i .dead).set id (.row T (l ++ m))) j = if id = j then .row T (l ++ m) else if i = j then .dead else h.at j := by
    intro j
    rw [at_set, at_set]
    by_cases h1 : id = j
    · simp [h1]; intro h2; subst h1; omega
    · simp only [h1, false_and, if_false]
      by_cases h2 : i = j
      · subst h2; simp [hil]
      · simp [h2]
  have hc' : ∀ j, j ≠ id → (c.put id (some b) (c.off i)).blk j = c.blk j ∧ (c.put id (some b) (c.off i)).off j = c.off j := fun j hj => ⟨put_blk_ne _ _ hj, put_off_ne _ _ hj⟩
  have hoth : ∀ j, j ≠ i → (h.at j).live → c.blk j ≠ some b := fun j hj hl hbj => hj (wf.inj j i b hl (by rw [hi]; trivial) hbj hb)
  have hown : ∀ y, Owns h c b y := fun y => ⟨i, 0, hb, by rw [hi]; rfl, Nat.zero_le _⟩
  have howns : ∀ b' x, Owns ((h.set i .dead).set id (.row T (l ++ m))) (c.put id (some b) (c.off i)) b' x → Owns h c b' x := by
    rintro b' x ⟨j, f, g1, g2, g3⟩
    rw [hat] at g2
    by_cases h1 : id = j
    · subst h1
      rw [put_blk_eq] at g1
      cases g1
      exact hown x
    · rw [if_neg h1] at g2
      split at g2
      · simp [AObj.from_] at g2
      · obtain ⟨e1, e2⟩ := hc' j (Ne.symm h1)
        rw [e1] at g1; rw [e2] at g2
        exact ⟨j, f, g1, g2, g3⟩
  have x : Ext w h c w' ((h.set i .dead).set id (.row T (l ++ m))) (c.put id (some b) (c.off i)) := by
    constructor
    · exact hw.os
    · exact hw.tape
    · exact hw.output
    · rw [hw.size]; exact Nat.le_refl _
    · intro j hj
      refine ⟨by simpa using hj.1, ?_⟩
      rw [hat]
      split
      · simp
      · split
        · simp
        · exact hj.2
    · intro j hj hd
      have hjid : id ≠ j := by rintro rfl; exact hj.2 hf
      rw [hat, if_neg hjid] at hd ⊢
      split
      · rename_i h2; rw [if_pos h2] at hd; exact absurd rfl hd
      · rename_i h2
        rw [if_neg h2] at hd
        refine ⟨?_, (hc' j (Ne.symm hjid)).1, (hc' j (Ne.symm hjid)).2⟩
        have h3 := hj.2
        revert hd h3
        cases h.at j <;> simp [AObj.sim]
    · intro b' y hy ho
      have hbb : b' ≠ b := by rintro rfl; exact ho (hown y)
      exact blocks_cell (hw.other b' hbb)
    · intro b' hb' ho
      have hbb : b' ≠ b := by rintro rfl; exact ho 0 (hown 0)
      exact hw.other b' hbb
    · intro b' y _ ho; exact howns b' y ho
    · rfl
    · intro b' arr' e' fz' ha
      by_cases hbb : b' = b
      · subst hbb
        rw [harr] at ha; cases ha
        exact ⟨cur', fz, hw.here, hcs⟩
      · exact ⟨arr', fz', by rw [hw.other b' hbb]; exact ha, rfl⟩
  obtain ⟨fl, fh⟩ := fz
  have hti := wf.obj i hil
  rw [hi] at hti
  have hfz : ∀ y, (y < arr.size ∨ T.isMail = true) → w.frozen? ⟨b, y, none⟩ = false := by
    rcases hti with ⟨h0, _⟩ | ⟨b', arr', e', fz', p1, p2, p3, p4, p5⟩
    · rw [hb] at h0; cases h0
    · rw [hb] at p1; cases p1
      rw [harr] at p2; cases p2
      exact p4
  have rr : RepL w' ((h.set i .dead).set id (.row T (l ++ m))) (c.put id (some b) (c.off i)) (cellsL T (l ++ m)) (olds ++ news) := by
    rw [cellsL_append]; exact (ro.mono x).append (rn.mono x)
  have hcells : ∀ (k : Nat) (d : Value), (olds ++ news)[k]? = some d → cur'[c.off i + k]? = some d := by
    intro k d hd
    have l1 : (arr.toList.take (c.off i + l.length * T.sz)).length = c.off i + l.length * T.sz := by simp only [List.length_take, Array.length_toList]; omega
    rw [← Array.getElem?_toList, hcur, List.append_assoc]
    by_cases hk : k < olds.length
    · rw [List.getElem?_append_left hk] at hd
      have hlne : l ≠ [] := by rintro rfl; simp at hlen1; omega
      have hc1 := hold hlne k d hd
      rw [cell_of_row w b _ arr el (fl, fh) harr] at hc1
      rw [List.getElem?_append_left (by omega), List.getElem?_take, if_pos (by omega), Array.getElem?_toList]
      exact hc1
    · rw [List.getElem?_append_right (by omega)] at hd
      have hj2 : k - olds.length < news.length := (List.getElem?_eq_some_iff.1 hd).1
      rw [List.getElem?_append_right (by omega), l1, List.getElem?_append_left (by omega)]
      rw [← hd]; congr 1; omega
  have wf' : WF w' ((h.set i .dead).set id (.row T (l ++ m))) (c.put id (some b) (c.off i)) := by
    constructor
    · intro b' y ho; exact wf.disj b' y (howns b' y ho)
    · intro b' y he; rw [hw.size]; exact wf.extlt b' y he
    · intro j hj
      rw [hat]
      by_cases h1 : id = j
      · subst h1
        rw [if_pos rfl]
        refine .inr ⟨b, cur', el, (fl, fh), put_blk_eq _ _ _, hw.here, by rw [put_off_eq]; omega, fun y h1 => ?_, ?_⟩
        · have := hfz y (h1.imp (fun h => by omega) fun h => h)
          rw [frozen_of harr] at this
          rw [frozen_of hw.here]; exact this
        · rw [put_off_eq]; exact row_of_cells rr hcells
      · rw [if_neg h1]
        split
        · trivial
        · rename_i h2
          by_cases hl : (h.at j).live
          · refine (wf.obj j (by simpa using hj)).keep x (fun b' hb' => hw.other b' ?_) (hc' j (Ne.symm h1)).1 (hc' j (Ne.symm h1)).2
            rintro rfl
            exact hoth j (Ne.symm h2) hl hb'
          · revert hl; cases h.at j <;> simp [AObj.live, ObjOK]
    · intro j k b' hj hk h1 h2
      rw [hat] at hj hk
      by_cases e1 : id = j <;> by_cases e2 : id = k
      · exact e1.symm.trans e2
      · subst e1
        rw [put_blk_eq] at h1; cases h1
        rw [if_neg e2] at hk
        rw [(hc' k (Ne.symm e2)).1] at h2
        split at hk
        · exact hk.elim
        · rename_i h3; exact absurd h2 (hoth k (Ne.symm h3) hk)
      · subst e2
        rw [put_blk_eq] at h2; cases h2
        rw [if_neg e1] at hj
        rw [(hc' j (Ne.symm e1)).1] at h1
        split at hj
        · exact hj.elim
        · rename_i h3; exact absurd h1 (hoth j (Ne.symm h3) hj)
      · rw [if_neg e1] at hj
        rw [if_neg e2] at hk
        rw [(hc' j (Ne.symm e1)).1] at h1
        rw [(hc' k (Ne.symm e2)).1] at h2
        split at hj
        · exact hj.elim
        · split at hk
          · exact hk.elim
          · exact wf.inj j k b' hj hk h1 h2
    · exact wf.lay_ext x
  refine ⟨_, wf', x, .row ⟨by simpa using hid, by rw [hat, if_pos rfl]; simp⟩ (by omega) ⟨_, _, rfl, ⟨hcap, hmx, fun _ => ⟨_, rfl⟩⟩, fun T' l' he => ?_⟩⟩
  rw [hat, if_pos rfl] at he
  cases he
  exact ⟨rfl, hcap, hmx, .inr ⟨b, cur', el, (fl, fh), put_blk_eq _ _ _, by rw [put_off_eq], hw.here, by rw [put_off_eq, hcs]; exact hsz⟩⟩

def Writes (P : Program) (w : World) (h : Heap) (c : Cfg) (s : Sem Value) (k : V → Heap → Option R) (r : R) : Prop :=
  ∃ v h' v' w' c', s.run P w = .ok v' w' ∧ WF w' h' c' ∧ Ext w h c w' h' c' ∧ Rep w' h' c' v v' ∧ k v h' = some r

theorem append_sound (T : TOK P tt) (wf : WF w h c) {t xt e id : Nat} (ht : (tt.at t).d = .slice e) (hxt : (∃ e', P.underlying xt = some (.slice e')) ∨ P.underlying xt = some .string) {s x : V} {s' x' : Value}
    (rs : Rep w h c s s') (rx : Rep w h c x x') (hid : id < h.length) (hf : h.at id = .free) (ty : Nat) {k : V → Heap → Option R} {r : R} (hk : appendK tt e s x h id k = some r) :
    Writes P w h c (Builtin.append_ #[t, xt] ty #[s', x']) k r := by
  unfold appendK at hk
  have hk0 := chk_some hk
  clear hk
  obtain ⟨hvok, hk⟩ := hk0
  unfold appendK0 at hk
  split at hk <;> try (first | cases hk)
  rename_i T' hty
  split at hk <;> try (first | cases hk)
  rename_i hcond
  simp only [Bool.and_eq_true, decide_eq_true_eq, bne_iff_ne, ne_eq] at hcond
  obtain ⟨⟨hsz, hnz⟩, hok⟩ := hcond
  split at hk <;> try (first | cases hk)
  rename_i m hsrc
  obtain ⟨news, n1, n2, n3, n4⟩ := src_sound (P := P) wf hsz rx hvok hsrc
  clear hvok
  have hnl := n3.1
  rw [cellsL_len, hsz] at hnl
  have hones := ones_of n3 (cellsL_one T' m)
  have hbig : ∀ n : Nat, (n + m.length) * (tt.at e).bytes ≤ 140737488355328 → n + m.length ≤ mx := fun n hb => by
    have : n + m.length ≤ (n + m.length) * (tt.at e).bytes := Nat.le_mul_of_pos_right _ (by omega)
    unfold mx; omega
  have hte : ∀ o : Nat, o = 0 → TokE T' o e := fun o ho hT => ⟨ho, T.u8s e (by rw [hty, hT])⟩
  have fromNil : ((0 + m.length) * (tt.at e).bytes ≤ 140737488355328) → k (.sl T' m (.own id)) (h.set id .tok) = some r → Writes P w h c (Builtin.append_ #[t, xt] ty #[.slice none 0 0, x']) k r := by
    intro hroom hk
    have := run_append_gen (P := P) (w := w) (A := none) (n := 0) (cap := 0) (m := m.length) (x := x') (olds := []) (news := news) T ht hok hxt ty n1 n2 hnl.symm hones (by simp) (fun h => absurd rfl h) (Nat.le_refl _) (by unfold mx; omega) (.inl ⟨rfl, rfl⟩) hroom (by omega)
    rcases this with ⟨h1, _, hm0, hrun⟩ | ⟨_, b, o, arr, el, fz, w', cur', hA, _⟩ | ⟨cap, ds, h1, h2, h3, h4, hrun⟩
    · have hm : m = [] := List.eq_nil_of_length_eq_zero hm0
      subst hm
      obtain ⟨c', g1, g2, g3⟩ := none_tok wf hid hf (T := T')
      exact ⟨_, _, _, w, c', hrun, g1, g2, g3, hk⟩
    · cases hA
    · rw [Nat.zero_add] at h1 h4 hrun
      rw [← hsz] at h3 h4
      obtain ⟨c', g1, g2, g3⟩ := grown_tok wf hid hf n3 (hte 0 rfl) h3 (by simpa using h4) h1 h2 (e := e)
      exact ⟨_, _, _, _, c', hrun, g1, g2, g3, hk⟩
  have rowNil : ((0 + m.length) * (tt.at e).bytes ≤ 140737488355328) → k (.row id m.length) (h.set id (.row T' m)) = some r → Writes P w h c (Builtin.append_ #[t, xt] ty #[.slice none 0 0, x']) k r := by
    intro hroom hk
    have := run_append_gen (P := P) (w := w) (A := none) (n := 0) (cap := 0) (m := m.length) (x := x') (olds := []) (news := news) T ht hok hxt ty n1 n2 hnl.symm hones (by simp) (fun h => absurd rfl h) (Nat.le_refl _) (by unfold mx; omega) (.inl ⟨rfl, rfl⟩) hroom (by omega)
    rcases this with ⟨h1, _, hm0, hrun⟩ | ⟨_, b, o, arr, el, fz, w', cur', hA, _⟩ | ⟨cap, ds, h1, h2, h3, h4, hrun⟩
    · have hm : m = [] := List.eq_nil_of_length_eq_zero hm0
      subst hm
      obtain ⟨c', g1, g2, g3⟩ := none_row wf hid hf (T := T')
      exact ⟨_, _, _, w, c', hrun, g1, g2, g3, hk⟩
    · cases hA
    · rw [Nat.zero_add] at h1 h4 hrun
      rw [← hsz] at h3 h4
      obtain ⟨c', g1, g2, g3⟩ := grown_row wf hid hf n3 h3 (by simpa using h4) h1 h2 (e := e)
      exact ⟨_, _, _, _, c', hrun, g1, g2, g3, hk⟩
  split at hk <;> try (first | cases hk)
  · obtain ⟨hroom, hk⟩ := chk_some hk
    cases rs
    split at hk
    · exact rowNil (by simpa using hroom) hk
    · exact fromNil (by simpa using hroom) hk
  · rename_i T'' l tk
    split at hk <;> try (first | cases hk)
    rename_i q
    subst q
    simp only at hk
    split at hk <;> try (first | cases hk)
    · obtain ⟨hroom, hk⟩ := chk_some hk
      cases rs with
      | sl f hcap hmx hc hr hnil hown =>
        obtain ⟨rfl, rfl⟩ := hnil rfl
        have hl0 : l = [] := List.eq_nil_of_length_eq_zero (by omega)
        subst hl0
        exact fromNil (by simpa using hroom) hk
    · rename_i i
      split at hk <;> try (first | cases hk)
      rename_i htok
      obtain ⟨hroom, hk⟩ := chk_some hk
      have hroom' : (l.length + m.length) * (tt.at e).bytes ≤ 140737488355328 := by simpa using hroom
      have hne : i ≠ id := by rintro rfl; rw [htok] at hf; cases hf
      have hid1 : id < (h.set i .dead).length := by simpa using hid
      have hf1 : Heap.at (h.set i .dead) id = .free := by rw [at_set_ne _ hne]; exact hf
      obtain ⟨A, cap, rfl, hcap, hmx⟩ := sl_inv rs
      obtain ⟨olds, ro, ho⟩ := sl_cells rs
      have hol := ro.1
      rw [cellsL_len, hsz] at hol
      have hown : (c.blk i = none ∧ A = none ∧ cap = 0) ∨ ∃ b o arr e fz, c.blk i = some b ∧ A = some ⟨b, o, none⟩ ∧ c.off i = o + l.length * T''.sz ∧ w.heap[b]? = some (.cells arr e fz) ∧ o + cap * T''.sz ≤ arr.size ∧ TokE T'' o e := by
        cases rs with
        | sl f hcap hmx hc hr hnil hown => exact (hown i rfl).2 htok
      have hobj := wf.obj i (Heap.at_live htok (by simp))
      rw [htok] at hobj
      have hA : (A = none ∧ cap = 0) ∨ ∃ b o arr el fz, A = some ⟨b, o, none⟩ ∧ w.heap[b]? = some (.cells arr el fz) ∧ o + cap * (tt.at e).size ≤ arr.size ∧ ∀ y, o + l.length * (tt.at e).size ≤ y → y < arr.size → w.frozen? ⟨b, y, none⟩ = false := by
        rcases hown with ⟨_, h1, h2⟩ | ⟨b, o, arr, el, fz, g1, g2, g3, g4, g5, _⟩
        · exact .inl ⟨h1, h2⟩
        · refine .inr ⟨b, o, arr, el, fz, g2, g4, by rw [← hsz]; exact g5, ?_⟩
          rcases hobj with h0 | ⟨b', arr', e', fz', p1, p2, p3, p4⟩
          · rw [g1] at h0; cases h0
          · rw [g1] at p1; cases p1
            rw [g4] at p2; cases p2
            intro y h1 h2
            exact frozen_low g4 p4 (by rw [g3, hsz]; exact h1)
      have := run_append_gen (P := P) (w := w) (n := l.length) (olds := olds) T ht hok hxt ty n1 n2 hnl.symm hones hol.symm (fun hn => by
        obtain ⟨b, o, q1, q2, _⟩ := ho (by rintro rfl; exact hn rfl)
        exact ⟨b, o, q1, q2⟩) hcap hmx hA hroom' (hbig _ hroom')
      have k1 := kill_ext (w := w) (h := h) (c := c) i
      have k2 := kill_wf wf i
      rcases this with ⟨h1, hA0, hm0, hrun⟩ | ⟨hfit, b, o, arr, el, fz, w', cur', hA1, harr, hsz1, hrun, hw, hcur⟩ | ⟨cap', ds, h1, h2, h3, h4, hrun⟩
      · have hm : m = [] := List.eq_nil_of_length_eq_zero hm0
        subst hm
        have hl0 : l = [] := by
          rcases hown with ⟨_, _, hc0⟩ | ⟨b, o, arr, el, fz, _, g2, _⟩
          · exact List.eq_nil_of_length_eq_zero (by omega)
          · rw [g2] at hA0; cases hA0
        subst hl0
        have hc0 : cap = 0 := by
          rcases hown with ⟨_, _, hc0⟩ | ⟨b, o, arr, el, fz, _, g2, _⟩
          · exact hc0
          · rw [g2] at hA0; cases hA0
        subst hc0
        subst hA0
        obtain ⟨c', g1, g2, g3⟩ := none_tok k2 hid1 hf1 (T := T'')
        exact ⟨_, _, _, w, c', hrun, g1, k1.trans g2, g3, hk⟩
      · rcases hown with ⟨_, hA2, _⟩ | ⟨b', o', arr', el', fz', g1, g2, g3, g4, g5, g6⟩
        · rw [hA2] at hA1; cases hA1
        · rw [g2] at hA1; cases hA1
          rw [g4] at harr; cases harr
          subst g2
          have hlen : (l ++ m).length = l.length + m.length := List.length_append
          obtain ⟨c', q1, q2, q3⟩ := fit_tok (l := l) (m := m) wf htok hid hf g1 g3 g6 g4 hw (by omega) hmx g5 ro n3 (fun hne => by
            obtain ⟨b2, o2, p1, p2, _⟩ := ho hne
            cases p1; exact p2) (fun y y1 y2 => by
            by_cases hne : l = []
            · subst hne; simp at y2; omega
            · obtain ⟨b2, o2, p1, _, p3⟩ := ho hne
              cases p1; exact p3 y y1 y2) (by rw [hsz]; exact hcur)
          rw [hlen] at q3
          exact ⟨_, _, _, w', c', hrun, q1, q2, q3, hk⟩
      · have hlen : (l ++ m).length = l.length + m.length := List.length_append
        obtain ⟨c', q1, q2, q3⟩ := grown_tok (l := l ++ m) k2 hid1 hf1 (by rw [cellsL_append]; exact (ro.mono k1).append (n3.mono k1)) (hte 0 rfl) (by rw [hsz]; exact h3) (by rw [hlen, hsz]; exact h4) (by omega) h2 (e := e)
        rw [hlen] at q3
        exact ⟨_, _, _, _, c', hrun, q1, k1.trans q2, q3, hk⟩
  · rename_i i n
    split at hk <;> try (first | cases hk)
    rename_i T'' l hrow
    split at hk <;> try (first | cases hk)
    rename_i q
    subst q
    obtain ⟨hroom, hk⟩ := chk_some hk
    simp only at hk
    have hroom' : (l.length + m.length) * (tt.at e).bytes ≤ 140737488355328 := by simpa using hroom
    have hne : i ≠ id := by rintro rfl; rw [hrow] at hf; cases hf
    have hid1 : id < (h.set i .dead).length := by simpa using hid
    have hf1 : Heap.at (h.set i .dead) id = .free := by rw [at_set_ne _ hne]; exact hf
    obtain ⟨olds, ro, ho⟩ := row_all wf hrow
    have hol := ro.1
    rw [cellsL_len, hsz] at hol
    have hobj := wf.obj i (Heap.at_live hrow (by simp))
    rw [hrow] at hobj
    cases rs with
    | row hu hn hv =>
      obtain ⟨A, cap, rfl, hA0, hv⟩ := hv
      obtain ⟨hnl', hcap, hmx, hown⟩ := hv _ _ hrow
      subst hnl'
      have hA : (A = none ∧ cap = 0) ∨ ∃ b o arr el fz, A = some ⟨b, o, none⟩ ∧ w.heap[b]? = some (.cells arr el fz) ∧ o + cap * (tt.at e).size ≤ arr.size ∧ ∀ y, o + l.length * (tt.at e).size ≤ y → y < arr.size → w.frozen? ⟨b, y, none⟩ = false := by
        rcases hown with ⟨_, h1, h2⟩ | ⟨b, arr, el, fz, g1, g2, g4, g5⟩
        · exact .inl ⟨h1, h2⟩
        · refine .inr ⟨b, c.off i, arr, el, fz, g2, g4, by rw [← hsz]; exact g5, ?_⟩
          rcases hobj with ⟨h0, _⟩ | ⟨b', arr', e', fz', p1, p2, p3, p4, _⟩
          · rw [g1] at h0; cases h0
          · rw [g1] at p1; cases p1
            rw [g4] at p2; cases p2
            intro y _ h2
            exact p4 y (.inl h2)
      have := run_append_gen (P := P) (w := w) (n := l.length) (olds := olds) T ht hok hxt ty n1 n2 hnl.symm hones hol.symm (fun hn => by
        obtain ⟨b, q1, q2⟩ := ho (by rintro rfl; exact hn rfl)
        rcases hown with ⟨p1, _⟩ | ⟨b', arr, el, fz, p1, p2, _⟩
        · rw [q1] at p1; cases p1
        · rw [q1] at p1; cases p1
          exact ⟨b, _, p2, q2⟩) hcap hmx hA hroom' (hbig _ hroom')
      have k1 := kill_ext (w := w) (h := h) (c := c) i
      have k2 := kill_wf wf i
      have hlen : (l ++ m).length = l.length + m.length := List.length_append
      rcases this with ⟨h1, hAn, hm0, hrun⟩ | ⟨hfit, b, o, arr, el, fz, w', cur', hA1, harr, hsz1, hrun, hw, hcur⟩ | ⟨cap', ds, h1, h2, h3, h4, hrun⟩
      · have hm : m = [] := List.eq_nil_of_length_eq_zero hm0
        subst hm
        have hc0 : cap = 0 := by
          rcases hown with ⟨_, _, hc0⟩ | ⟨b, arr, el, fz, _, g2, _⟩
          · exact hc0
          · rw [g2] at hAn; cases hAn
        have hl0 : l = [] := List.eq_nil_of_length_eq_zero (by omega)
        subst hl0
        subst hc0
        subst hAn
        obtain ⟨c', g1, g2, g3⟩ := none_row k2 hid1 hf1 (T := T'')
        exact ⟨_, _, _, w, c', hrun, g1, k1.trans g2, g3, hk⟩
      · rcases hown with ⟨_, hA2, _⟩ | ⟨b', arr', el', fz', g1, g2, g4, g5⟩
        · rw [hA2] at hA1; cases hA1
        · rw [g2] at hA1; cases hA1
          rw [g4] at harr; cases harr
          subst g2
          obtain ⟨c', q1, q2, q3⟩ := fit_row (l := l) (m := m) wf hrow hid hf g1 g4 hw (by omega) hmx g5 ro n3 (fun hne => by
            obtain ⟨b2, p1, p2⟩ := ho hne
            rw [g1] at p1; cases p1; exact p2) (by rw [hsz]; exact hcur)
          rw [hlen] at q3
          exact ⟨_, _, _, w', c', hrun, q1, q2, q3, hk⟩
      · obtain ⟨c', q1, q2, q3⟩ := grown_row (l := l ++ m) k2 hid1 hf1 (by rw [cellsL_append]; exact (ro.mono k1).append (n3.mono k1)) (by rw [hsz]; exact h3) (by rw [hlen, hsz]; exact h4) (by omega) h2 (e := e)
        rw [hlen] at q3
        exact ⟨_, _, _, _, c', hrun, q1, k1.trans q2, q3, hk⟩
end

section
variable {P : Program} {tt : TTab} {w w' : World} {h : Heap} {c : Cfg} {R : Type}

def Obj.isCells : Obj → Bool
  | .cells _ _ _ => true
  | _ => false

theorem put_obj (wf : WF w h c) {i b : Nat} {o' : AObj} {o1 o2 : Obj} (hb : c.blk i = some b) (h1 : w.heap[b]? = some o1) (hn1 : Obj.isCells o1 = false)
    (hfrom : (h.at i).from_ (c.off i) = some 0) (hfrom' : o'.from_ (c.off i) = some 0) (hsim : (h.at i).sim o')
    (hob : Ext w h c { w with heap := w.heap.setIfInBounds b o2 } (h.set i o') c → ObjOK { w with heap := w.heap.setIfInBounds b o2 } (h.set i o') c i o') :
    WF { w with heap := w.heap.setIfInBounds b o2 } (h.set i o') c ∧ Ext w h c { w with heap := w.heap.setIfInBounds b o2 } (h.set i o') c := by
  have hi : i < h.length := Heap.at_live rfl (AObj.sim_dead hsim).1
  have hown : ∀ x, Owns h c b x := fun x => ⟨i, 0, hb, hfrom, Nat.zero_le _⟩
  have hother : ∀ k, k ≠ b → (w.heap.setIfInBounds b o2)[k]? = w.heap[k]? := fun k hk => by
    rw [Array.getElem?_setIfInBounds]; simp [Ne.symm hk]
  have hli := from_live hfrom
  have x : Ext w h c { w with heap := w.heap.setIfInBounds b o2 } (h.set i o') c := by
    constructor
    · rfl
    · rfl
    · rfl
    · simp
    · intro j hj
      by_cases hij : i = j
      · subst hij
        refine ⟨by simpa using hj.1, ?_⟩
        rw [at_set_eq _ hi]
        intro he; subst he; simp [AObj.from_] at hfrom'
      · exact ⟨by simpa using hj.1, by rw [at_set_ne _ hij]; exact hj.2⟩
    · intro j hj hd
      refine ⟨?_, rfl, rfl⟩
      by_cases hij : i = j
      · subst hij; rw [at_set_eq _ hi]; exact hsim
      · rw [at_set_ne _ hij] at hd ⊢
        have h2 := hj.2
        revert hd h2
        cases h.at j <;> simp [AObj.sim]
    · intro b' x hx ho
      have hne : b' ≠ b := by rintro rfl; exact ho (hown x)
      exact blocks_cell (hother b' hne)
    · intro b' hx ho
      have hne : b' ≠ b := by rintro rfl; exact ho 0 (hown 0)
      exact hother b' hne
    · rintro b' x hx ⟨j, f, g1, g2, g3⟩
      by_cases hij : i = j
      · subst hij
        rw [hb] at g1; cases g1
        exact hown x
      · rw [at_set_ne _ hij] at g2
        exact ⟨j, f, g1, g2, g3⟩
    · rfl
    · intro b' arr el fz' ha
      by_cases hne : b' = b
      · subst hne
        rw [h1] at ha; cases ha
        simp [Obj.isCells] at hn1
      · exact ⟨arr, fz', by rw [hother b' hne]; exact ha, rfl⟩
  have hlive : ∀ j, (Heap.at (h.set i o') j).live → (h.at j).live := fun j hj => by
    by_cases hij : i = j
    · subst hij; exact hli
    · rw [at_set_ne _ hij] at hj; exact hj
  refine ⟨?_, x⟩
  constructor
  · intro b' y ho he
    exact wf.disj b' y (x.owns b' y (wf.extlt b' y he) ho) he
  · intro b' y he
    simpa using wf.extlt b' y he
  · intro j hj
    by_cases hij : i = j
    · subst hij; rw [at_set_eq _ hi]; exact hob x
    · rw [at_set_ne _ hij]
      by_cases hl : (h.at j).live
      · refine (wf.obj j (by simpa using hj)).keep x (fun b' hb' => hother b' ?_) rfl rfl
        rintro rfl
        exact hij (wf.inj i j b' hli hl hb hb')
      · revert hl; cases h.at j <;> simp [AObj.live, ObjOK]
  · intro j k b' hj hk h1 h2
    exact wf.inj j k b' (hlive j hj) (hlive k hk) h1 h2
  · exact wf.lay_ext x

theorem decode_lt (s : ByteArray) (i : Nat) : (Utf8.decode s i).1 < 2097152 ∧ 1 ≤ (Utf8.decode s i).2 ∧ (Utf8.decode s i).2 ≤ 4 := by
  have hb : ∀ k, (s.get! k).toNat < 256 := fun k => UInt8.toNat_lt _
  have h0 := hb (i + 0)
  unfold Utf8.decode
  simp only
  split
  · exact ⟨by omega, by simp, by simp⟩
  · split
    · split
      · exact ⟨by simp only; omega, by simp, by simp⟩
      · exact ⟨by simp [Utf8.runeError], by simp, by simp⟩
    · split
      · split
        · exact ⟨by simp only; omega, by simp, by simp⟩
        · exact ⟨by simp [Utf8.runeError], by simp, by simp⟩
      · split
        · split
          · exact ⟨by simp only; omega, by simp, by simp⟩
          · exact ⟨by simp [Utf8.runeError], by simp, by simp⟩
        · exact ⟨by simp [Utf8.runeError], by simp, by simp⟩

theorem has_rune (n : Nat) (h : n < 2097152) : IntKind.i32.has (n : Int) := by
  unfold IntKind.has; simp [IntKind.min, IntKind.max, IntKind.signed, IntKind.bits]; omega

theorem next_sound (wf : WF w h c) {i : Nat} {s : Str} {pos : Nat} {a' : Value} (ra : Rep w h c (.ptr i 0) a') (hit : h.at i = .iter s pos) (ty : TypeId) {k : V → Heap → Option R} {r : R}
    (hk : (bif decide (pos < s.length) then k (.tuple [.bool true, .int .i64 pos, .int .i32 (runeAt s pos).1]) (h.set i (.iter s (pos + (runeAt s pos).2))) else k (.tuple [.bool false]) h) = some r) :
    Writes P w h c (Instr.next a' true ty) k r := by
  have hi := Heap.at_live hit (by simp)
  have ho := wf.obj i hi
  rw [hit] at ho
  obtain ⟨b, bs, g1, g2, g3, g4⟩ := ho
  cases ra with
  | ptr hu hv =>
    obtain ⟨b', rfl, hb'⟩ := hv
    have := hb' (by rw [hit]; simp)
    rw [g1] at this; cases this
    have hlen : s.length = bs.size := by rw [← g3, size_data]
    have hbs : bs = ⟨s.toArray⟩ := string_ext (by rw [g3])
    have hdec : Utf8.decode bs pos = runeAt s pos := by rw [hbs]; rfl
    have hget : (getObj b).run P w = .ok (.stringIter bs pos) w := by simp [getObj, Sem.run, g2]
    by_cases hp : pos < s.length
    · have hc : decide (pos < s.length) = true := by simpa using hp
      rw [hc] at hk
      have hset : (setObj b (.stringIter bs (pos + (runeAt s pos).2))).run P w = .ok () { w with heap := w.heap.setIfInBounds b (.stringIter bs (pos + (runeAt s pos).2)) } := by
        simp [setObj, Sem.run, g2]
      have hlt : b < w.heap.size := lt_heap g2
      have hrune := (decode_lt bs pos).1
      rw [hdec] at hrune
      have hfrom : (h.at i).from_ (c.off i) = some 0 := by rw [hit]; rfl
      have hsim : (h.at i).sim (.iter s (pos + (runeAt s pos).2)) := by rw [hit]; trivial
      obtain ⟨q1, q2⟩ := put_obj wf (o' := .iter s (pos + (runeAt s pos).2)) (o2 := .stringIter bs (pos + (runeAt s pos).2)) g1 g2 rfl hfrom rfl hsim
        (fun _ => ⟨b, bs, g1, by simp [Array.getElem?_setIfInBounds, hlt], g3, g4⟩)
      refine ⟨_, _, .tuple #[.bool true, goInt pos, .int .i32 (runeAt s pos).1], _, c, ?_, q1, q2, ?_, hk⟩
      · simp only [Instr.next, Sem.run_bind, hget, Result.andThen_ok]
        rw [if_pos (by omega), hdec]
        simp only [Sem.run_bind, hset, Result.andThen_ok, Sem.run_pure]
      · refine .tuple rfl fun j v d hv hd => ?_
        match j, hv, hd with
        | 0, hv, hd => simp at hv hd; subst hv; subst hd; exact .bool _
        | 1, hv, hd => simp [goInt] at hv hd; subst hv; subst hd; exact .int (has_len _ (by omega))
        | 2, hv, hd => simp at hv hd; subst hv; subst hd; exact .int (has_rune _ hrune)
        | j + 3, hv, _ => simp at hv
    · have hc : decide (pos < s.length) = false := by simpa using hp
      rw [hc] at hk
      refine ⟨_, _, .tuple #[.bool false], w, c, ?_, wf, .refl _ _ _, ?_, hk⟩
      · simp only [Instr.next, Sem.run_bind, hget, Result.andThen_ok]
        rw [if_neg (by omega)]
        rfl
      · refine .tuple rfl fun j v d hv hd => ?_
        match j, hv, hd with
        | 0, hv, hd => simp at hv hd; subst hv; subst hd; exact .bool _
        | j + 1, hv, _ => simp at hv
end
end Go.Yard

namespace Go.Yard
open Go.RowKit Go.MapKept

section
variable {P : Program} {tt : TTab} {w w' : World} {h : Heap} {c : Cfg} {R : Type}

theorem update_sound (T : TOK P tt) (wf : WF w h c) {t kt vt i : Nat} {K V' : Ty} {l : List (K.den × V'.den)} (ht : (tt.at t).d = .map kt vt) {m d y : Value} (rm : Rep w h c (.map i) m) (hm : h.at i = .amap K V' l)
    (hf : (keyFits tt kt K && elFits tt vt V') = true) {v u : V} (rk : Rep w h c v d) (ru : Rep w h c u y) {kx : K.den} {vx : V'.den} (hx : elD K v = some kx) (hy : elD V' u = some vx) :
    ∃ w', (Instr.mapUpdate t m d y).run P w = .ok () w' ∧ WF w' (h.set i (.amap K V' (mapPut K V' kx vx l))) c ∧ Ext w h c w' (h.set i (.amap K V' (mapPut K V' kx vx l))) c := by
  simp only [Bool.and_eq_true] at hf
  obtain ⟨hf1, hf2⟩ := hf
  have hi := Heap.at_live hm (by simp)
  have ho := wf.obj i hi
  rw [hm] at ho
  obtain ⟨b, es, clock, g1, g2, g3, g4, g5, g6⟩ := ho
  cases rm with
  | map hu hv =>
    obtain ⟨b', rfl, hb'⟩ := hv
    have := hb' (by rw [hm]; simp)
    rw [g1] at this; cases this
    have hut : P.underlying t = some (.map kt vt) := und_of T ht
    have e := elD_eq hx (fits_one hf1).1
    subst e
    have e := elD_eq hy (elFits_one hf2)
    subst e
    have hl : es.toList.length = l.length := by simpa using g5
    have hr : ∀ (j : Nat) (x : K.den × V'.den) (e : MapEntry), l[j]? = some x → es.toList[j]? = some e → Rep w h c (elV K x.1) e.key := fun j x e hx he => (g6 j x e hx (by simpa using he)).1
    obtain ⟨u, hu', hik, _⟩ := key_same T hf1 rk rk
    have hfind := run_findKey (w := w) hu' (find_run T hf1 rk hu' l es.toList 0 hl hr)
    have hchk := run_checkKey (w := w) hu' hik false 9999
    have hget := Go.MapKept.run_getObj_map (P := P) g2
    have hlt : b < w.heap.size := lt_heap g2
    have hfrom : (h.at i).from_ (c.off i) = some 0 := by rw [hm]; rfl
    have hsim : ∀ l' : List (K.den × V'.den), (h.at i).sim (.amap K V' l') := fun l' => by rw [hm]; exact ⟨rfl, rfl⟩
    rcases findL_get (K := K) (T := V') (k := kx) l es.toList 0 hl with ⟨h1, h2, h3, h4⟩ | ⟨j, x, e, h1, h2, h3, h4, h5, h6, h7⟩
    · rw [h1] at hfind
      rw [h4 vx]
      have hset := Go.MapKept.run_setObj_map (P := P) (.map (es.push { key := d, val := y, born := clock }) (clock + 1)) g2
      obtain ⟨q1, q2⟩ := put_obj wf (o' := .amap K V' (l ++ [(kx, vx)])) (o2 := .map (es.push { key := d, val := y, born := clock }) (clock + 1)) g1 g2 rfl hfrom rfl (hsim _) (fun x => by
        refine ⟨b, es.push { key := d, val := y, born := clock }, clock + 1, g1, by simp [Array.getElem?_setIfInBounds, hlt], g3, g4, by simp [g5], fun j q e hq he => ?_⟩
        by_cases hj : j < l.length
        · rw [List.getElem?_append_left hj] at hq
          rw [Array.getElem?_push, if_neg (by omega)] at he
          exact ⟨(g6 j q e hq he).1.mono x, (g6 j q e hq he).2.mono x⟩
        · have hj2 : j = l.length := by
            have := (List.getElem?_eq_some_iff.1 hq).1
            simp at this; omega
          subst hj2
          rw [List.getElem?_append_right (Nat.le_refl _)] at hq
          simp at hq; subst hq
          rw [Array.getElem?_push, if_pos g5.symm] at he
          cases he
          exact ⟨rk.mono x, ru.mono x⟩)
      refine ⟨_, ?_, q1, q2⟩
      simp [Instr.mapUpdate, run_underlying hut, hget, hchk, hfind, hset]
    · rw [Nat.zero_add] at h1
      rw [h1] at hfind
      rw [h7 vx]
      have hej : es[j]? = some e := by simpa using h3
      have hsame : e.key = d := by
        obtain ⟨u2, _, _, _, _, q⟩ := key_same T hf1 rk (g6 j x e h2 hej).1
        exact q h4
      have hget2 : ((es[j]?).map (·.key)).getD d = d := by rw [hej]; simpa using hsame
      have hstay := run_keyThatStays (P := P) (w := w) hik
      have hset := Go.MapKept.run_setObj_map (P := P) (.map (es.modify j fun e => { e with key := d, val := y }) clock) g2
      obtain ⟨q1, q2⟩ := put_obj wf (o' := .amap K V' (l.set j (kx, vx))) (o2 := .map (es.modify j fun e => { e with key := d, val := y }) clock) g1 g2 rfl hfrom rfl (hsim _) (fun x' => by
        refine ⟨b, es.modify j fun e => { e with key := d, val := y }, clock, g1, by simp [Array.getElem?_setIfInBounds, hlt], g3, g4, by simp [g5], fun j' q e' hq he => ?_⟩
        rw [Array.getElem?_modify] at he
        rw [List.getElem?_set] at hq
        by_cases hj : j = j'
        · subst hj
          rw [if_pos rfl] at hq he
          rw [hej] at he
          simp at he; subst he
          split at hq
          · cases hq; exact ⟨rk.mono x', ru.mono x'⟩
          · cases hq
        · rw [if_neg hj] at hq he
          exact ⟨(g6 j' q e' hq he).1.mono x', (g6 j' q e' hq he).2.mono x'⟩)
      refine ⟨_, ?_, q1, q2⟩
      simp only [Instr.mapUpdate, Sem.run_bind, run_underlying hut, Result.andThen_ok, hget, hchk, hfind, hget2, hstay, hset]
end
end Go.Yard

namespace Go.Yard
open Go.RowKit

section
variable {P : Program} {tt : TTab} {w w' : World} {h : Heap} {c : Cfg} {R : Type}

theorem sliceArr_sound (T : TOK P tt) (wf : WF w h c) {t : Nat} {v : V} {a' : Value} (ra : Rep w h c v a') {k : V → Heap → Option R} {r : R} (hk : sliceArrK tt t v h k = some r) :
    ∃ u h' d, (Instr.sliceAt t a' none none none).run P w = .ok d w ∧ WF w h' c ∧ Ext w h c w h' c ∧ Rep w h' c u d ∧ k u h' = some r := by
  unfold sliceArrK at hk
  split at hk <;> try (first | cases hk)
  rename_i m e i hd
  split at hk <;> try (first | cases hk)
  rename_i cs hcs
  split at hk <;> try (first | cases hk)
  rename_i T' hT
  split at hk <;> try (first | cases hk)
  rename_i hc
  simp only [Bool.and_eq_true, decide_eq_true_eq] at hc
  obtain ⟨⟨⟨⟨hsz, hok⟩, hlen⟩, hm0⟩, hm⟩ := hc
  split at hk <;> try (first | cases hk)
  rename_i l hl
  have hu : P.underlying t = some (.array m e) := und_of T hd
  have hsz' := T.sizeOf (w := w) hok
  have hi : i < h.length := Heap.at_live hcs (by simp)
  have ho := wf.obj i hi
  rw [hcs] at ho
  obtain ⟨b, arr, el, g1, g2, g3⟩ := ho
  cases ra with
  | ptr hi' hv =>
    obtain ⟨b', rfl, hb'⟩ := hv
    have hbb := hb' (by rw [hcs]; simp)
    rw [g1] at hbb
    cases hbb
    have hll : l.length = m := by
      rw [decAll_len hl]
      exact chunks_len _ _ _
    have hae : P.arrayLen t = m ∧ P.elem t = e := by
      unfold Program.arrayLen Program.elem
      rw [hu]
      exact ⟨rfl, rfl⟩
    have rr := decAll_rep hlen g3 hl
    have hrun := run_sliceAt_array_all (P := P) w t ⟨b, 0, none⟩ (by rw [hae.1, hae.2]; exact hu)
    rw [hae.1, hae.2, hsz'] at hrun
    have hne : ¬ m = 0 := hm0
    refine ⟨.sl T' l .no, h.set i .dead, .slice (some ⟨b, 0, none⟩) l.length m, ?_, kill_wf wf i, kill_ext i, ?_, hk⟩
    · rw [hrun, hll]
      simp [slicedAt, hne, add_off]
    · refine sl_of_cells (rr.mono (kill_ext i)) (by omega) (by unfold mx; omega) (fun _ => ?_) (fun h => by cases h) (fun _ h => by cases h)
      refine ⟨b, 0, rfl, fun j d hj => ?_, fun x _ _ => ?_⟩
      · rw [Nat.zero_add]
        have e : w.cell? ⟨b, j, none⟩ = arr[j]? := by simp [World.cell?, g2]
        rw [e]
        simpa using hj
      · have hown : Owns h c b x := ⟨i, 0, g1, by rw [hcs]; rfl, Nat.zero_le _⟩
        refine ⟨fun hq => ?_, wf.disj b x hown⟩
        obtain ⟨j, f, q1, q2, q3⟩ := hq
        rw [at_set] at q2
        split at q2
        · cases q2
        · rename_i hij
          have := wf.inj i j b (by rw [hcs]; trivial) (from_live q2) g1 q1
          exact hij ⟨this, hi⟩

theorem opW_sound (T : TOK P tt) (wf : WF w h c) {o : Oper} {ρ : Operand → V} {ρ' : Operand → Value} (hρ : ∀ x, Rep w h c (ρ x) (ρ' x)) {id : Nat} (hid : id < h.length) (hf : h.at id = .free) {k : V → Heap → Option R} {r : R}
    (hk : opW tt o.op ρ h id k = some r) :
    ∃ v h' v' w' c' nx, (execOp ρ' o).run P w = .ok nx w' ∧ (nx = .value v' ∨ nx = .skip ∧ v' = undef) ∧ WF w' h' c' ∧ Ext w h c w' h' c' ∧ Rep w' h' c' v v' ∧ k v h' = some r := by
  obtain ⟨dst, op, type, pos, after, guard⟩ := o
  cases op <;> (try simp only [opW] at hk) <;> try (first | cases hk)
  case store t x y =>
    split at hk <;> try (first | cases hk)
    rename_i vs hvs
    obtain ⟨rv, h1, _⟩ := flatK_sound (hρ y) hvs
    split at hk <;> try (first | cases hk)
    rename_i hcond
    simp only [Bool.and_eq_true, decide_eq_true_eq] at hcond
    obtain ⟨hok, hsz⟩ := hcond
    have rx := hρ x
    split at hk <;> try (first | cases hk)
    · rename_i i o hx
      rw [hx] at rx
      split at hk <;> try (first | cases hk)
      · rename_i cs hcs
        split at hk <;> try (first | cases hk)
        rename_i hlt
        obtain ⟨w', g1, g2, g3⟩ := store_cells (P := P) wf T rx hcs rv h1 hok hsz hlt
        exact ⟨_, _, undef, w', c, .skip, by simp [execOp, g1], .inr ⟨rfl, rfl⟩, g2, g3, .undef _, hk⟩
      rename_i u hcs
      split at hk <;> try (first | cases hk)
      rename_i v
      obtain ⟨w', g1, g2, g3⟩ := store_bld (P := P) wf T rx hcs rv h1 hok (by simpa using hsz)
      exact ⟨_, _, undef, w', c, .skip, by simp [execOp, g1], .inr ⟨rfl, rfl⟩, g2, g3, .undef _, hk⟩
    · rename_i i sz j o hx
      rw [hx] at rx
      split at hk <;> try (first | cases hk)
      rename_i T' l hrow
      split at hk <;> try (first | cases hk)
      rename_i hn
      split at hk <;> try (first | cases hk)
      rename_i hlt
      split at hk <;> try (first | cases hk)
      rename_i z hz
      obtain ⟨hj, hk⟩ := chk_some hk
      simp only [decide_eq_true_eq] at hj
      obtain ⟨w', g1, g2, g3⟩ := store_row (P := P) wf T rx hrow rv h1 hok hn hsz hj hlt hz
      exact ⟨_, _, undef, w', c, .skip, by simp [execOp, g1], .inr ⟨rfl, rfl⟩, g2, g3, .undef _, hk⟩
  case slice t x lo hi mx =>
    cases lo <;> cases hi <;> cases mx <;> simp only [Option.isNone, Bool.and_true, Bool.and_false, Bool.false_and, cond_true, cond_false] at hk <;> try (first | cases hk)
    obtain ⟨u, h', d, g1, g2, g3, g4, g5⟩ := sliceArr_sound T wf (hρ x) hk
    exact ⟨u, h', d, w, c, .value d, by simp [execOp, g1], .inl rfl, g2, g3, g4, g5⟩
  case mapUpdate t m x y =>
    have rm := hρ m
    split at hk <;> try (first | cases hk)
    rename_i kt vt i ht hx
    rw [hx] at rm
    split at hk <;> try (first | cases hk)
    rename_i K V' l hm
    split at hk <;> try (first | cases hk)
    rename_i hf
    split at hk <;> try (first | cases hk)
    rename_i kx vx hkx hvx
    obtain ⟨w', g1, g2, g3⟩ := update_sound (P := P) T wf ht rm hm hf (hρ x) (hρ y) hkx hvx
    exact ⟨_, _, undef, w', c, .skip, by simp [execOp, g1], .inr ⟨rfl, rfl⟩, g2, g3, .undef _, hk⟩
  case insert t m x y =>
    have rm := hρ m
    split at hk <;> try (first | cases hk)
    rename_i kt vt i ht hx
    rw [hx] at rm
    split at hk <;> try (first | cases hk)
    rename_i K V' l hm
    split at hk <;> try (first | cases hk)
    rename_i hf
    split at hk <;> try (first | cases hk)
    rename_i kx vx hkx hvx
    obtain ⟨w', g1, g2, g3⟩ := update_sound (P := P) T wf ht rm hm hf (hρ x) (hρ y) hkx hvx
    exact ⟨_, _, undef, w', c, .skip, by simp [execOp, g1], .inr ⟨rfl, rfl⟩, g2, g3, .undef _, hk⟩
  case next x str =>
    have rx := hρ x
    split at hk <;> try (first | cases hk)
    rename_i i hx
    rw [hx] at rx
    split at hk <;> try (first | cases hk)
    rename_i s pos hit
    obtain ⟨v, h', v', w', c', g1, g2, g3, g4, g5⟩ := next_sound (P := P) wf rx hit type hk
    exact ⟨v, h', v', w', c', .value v', by simp [execOp, g1], .inl rfl, g2, g3, g4, g5⟩
  case call cl =>
    obtain ⟨callee, args, argTypes⟩ := cl
    simp only at hk
    split at hk <;> try (first | cases hk)
    rename_i s x t xt ha hat
    obtain rfl : args = #[s, x] := by cases args; simp_all
    obtain rfl : argTypes = #[t, xt] := by cases argTypes; simp_all
    split at hk <;> try (first | cases hk)
    · rename_i e e' ht hxt
      have hu := und_of T hxt
      simp only [TD.Is] at hu
      obtain ⟨v, h', v', w', c', g1, g2, g3, g4, g5⟩ := append_sound T wf ht (.inl ⟨_, hu⟩) (hρ s) (hρ x) hid hf type hk
      exact ⟨v, h', v', w', c', .value v', by simp [execOp, resolve, invoke, builtin, g1], .inl rfl, g2, g3, g4, g5⟩
    · rename_i e ht hxt
      have hu := und_of T hxt
      simp only [TD.Is] at hu
      obtain ⟨v, h', v', w', c', g1, g2, g3, g4, g5⟩ := append_sound T wf ht (.inr hu) (hρ s) (hρ x) hid hf type hk
      exact ⟨v, h', v', w', c', .value v', by simp [execOp, resolve, invoke, builtin, g1], .inl rfl, g2, g3, g4, g5⟩
end

section
variable {w w' : World} {h h2 : Heap} {c c2 : Cfg}

theorem renL_eq (ρ : Nat → Option Nat) : ∀ l : List V, V.renL ρ l = l.map (V.ren ρ)
  | [] => rfl
  | v :: l => by simp only [V.renL, List.map_cons, renL_eq ρ l]

theorem renL_len (ρ : Nat → Option Nat) (l : List V) : (V.renL ρ l).length = l.length := by simp [renL_eq]
theorem renL_get (ρ : Nat → Option Nat) (l : List V) (j : Nat) : (V.renL ρ l)[j]? = (l[j]?).map (V.ren ρ) := by simp [renL_eq]

structure RenOK (ρ : Nat → Option Nat) (h : Heap) (c : Cfg) (h2 : Heap) (c2 : Cfg) : Prop where
  used : ∀ i j, ρ i = some j → Used h i → Used h2 j
  obj : ∀ i j, ρ i = some j → h2.at j ≠ .dead → h.at i ≠ .dead ∧ c2.blk j = c.blk i ∧ c2.off j = c.off i
  tok : ∀ i j, ρ i = some j → h2.at j = .tok → h.at i = .tok
  row : ∀ i j, ρ i = some j → ∀ (T : Ty) (l : List T.den), h2.at j = .row T l → h.at i = .row T l
  free : ∀ b x, Free h c b x → Free h2 c2 b x

theorem Rep.ren {ρ : Nat → Option Nat} (k : RenOK ρ h c h2 c2) {v : V} {d : Value} (r : Rep w h c v d) : Rep w h2 c2 (v.ren ρ) d := by
  induction r with
  | undef v => exact .undef v
  | int hn => exact .int hn
  | bool b => exact .bool b
  | str hl => exact .str hl
  | nilptr => exact .nilptr
  | nilsl => exact .nilsl
  | nilfunc => exact .nilfunc
  | nilmap => exact .nilmap
  | niliface => exact .niliface
  | iface t v => exact .iface t v
  | ifi hn => exact .ifi hn
  | anyb b => exact .anyb b
  | @ptr i o v hi hv =>
    obtain ⟨b, hv, hb⟩ := hv
    simp only [V.ren]
    cases e : ρ i with
    | none => exact .undef _
    | some j => exact .ptr (k.used i j e hi) ⟨b, hv, fun hd => by obtain ⟨h1, h2, _⟩ := k.obj i j e hd; rw [h2]; exact hb h1⟩
  | @map i v hi hv =>
    obtain ⟨b, hv, hb⟩ := hv
    simp only [V.ren]
    cases e : ρ i with
    | none => exact .undef _
    | some j => exact .map (k.used i j e hi) ⟨b, hv, fun hd => by obtain ⟨h1, h2, _⟩ := k.obj i j e hd; rw [h2]; exact hb h1⟩
  | @iptr cs b o f hc _ ih =>
    simp only [V.ren]
    refine .iptr f (fun j hj => ?_) (fun j v hv => ?_)
    · rw [renL_len] at hj
      exact ⟨(hc j hj).1, k.free _ _ (hc j hj).2⟩
    · rw [renL_get] at hv
      cases e : cs[j]? with
      | none => rw [e] at hv; cases hv
      | some u => rw [e] at hv; simp at hv; subst hv; exact ih j u e
  | @sl T l t A cap f hcap hmx hc hr hnil hown ih =>
    simp only [V.ren]
    refine .sl f hcap hmx (fun i j hi hj => ?_) (fun i j x v hx hv => ?_) (fun ht => ?_) (fun j ht => ?_)
    · obtain ⟨b, o, hA, h1, h2⟩ := hc i j hi hj
      exact ⟨b, o, hA, h1, k.free _ _ h2⟩
    · have := ih i j x v hx hv
      have e : v.ren ρ = v := by
        have hcl : ∀ (T : Ty) (x : T.den) (j : Nat) (v : V), (T.cells x)[j]? = some v → v.ren ρ = v := by
          intro T x
          have : ∀ v ∈ T.cells x, v.ren ρ = v := by
            cases T <;> simp [Ty.cells, V.ren, Tok.ren]
          intro j v hv
          exact this v (List.mem_of_getElem? hv)
        exact hcl T x j v hv
      rw [e] at this; exact this
    · cases t with
      | no => cases ht
      | nil => exact hnil rfl
      | own i => simp only [Tok.ren] at ht; split at ht <;> cases ht
    · cases t with
      | no => cases ht
      | nil => cases ht
      | own i =>
        simp only [Tok.ren] at ht
        split at ht
        · rename_i j' e
          cases ht
          obtain ⟨hu, ho⟩ := hown i rfl
          refine ⟨k.used i j e hu, fun htok => ?_⟩
          obtain ⟨_, e1, e2⟩ := k.obj i j e (by rw [htok]; simp)
          rw [e1, e2]
          exact ho (k.tok i j e htok)
        · cases ht
  | @vsl n sz cs A hn hmx f hc _ ih =>
    simp only [V.ren]
    refine .vsl (sz := sz) (by rw [renL_len]; exact hn) hmx f (fun j hj => ?_) (fun j v hv => ?_)
    · rw [renL_len] at hj
      obtain ⟨b, o, hA, h1, h2⟩ := hc j hj
      exact ⟨b, o, hA, h1, k.free _ _ h2⟩
    · rw [renL_get] at hv
      cases e : cs[j]? with
      | none => rw [e] at hv; cases hv
      | some u => rw [e] at hv; simp at hv; subst hv; exact ih j u e
  | @row i n v hi hn hv =>
    simp only [V.ren]
    cases e : ρ i with
    | none => exact .undef _
    | some j =>
      obtain ⟨A, cap, hv1, hA, hv⟩ := hv
      refine .row (k.used i j e hi) hn ⟨A, cap, hv1, hA, fun T l he => ?_⟩
      obtain ⟨_, e1, e2⟩ := k.obj i j e (by rw [he]; simp)
      rw [e1, e2]
      exact hv T l (k.row i j e T l he)
  | @rview i z q n v hi hn hv =>
    simp only [V.ren]
    cases e : ρ i with
    | none => exact .undef _
    | some j =>
      obtain ⟨A, cap, hv1, hA, hv⟩ := hv
      refine .rview (k.used i j e hi) hn ⟨A, cap, hv1, hA, fun T l he hz hq => ?_⟩
      obtain ⟨_, e1, e2⟩ := k.obj i j e (by rw [he]; simp)
      rw [e1, e2]
      exact hv T l (k.row i j e T l he) hz hq
  | @rptr i n q o v hi hv =>
    simp only [V.ren]
    cases e : ρ i with
    | none => exact .undef _
    | some j =>
      obtain ⟨a, ha, hv⟩ := hv
      refine .rptr (k.used i j e hi) ⟨a, ha, fun T l he hn hj => ?_⟩
      obtain ⟨_, e1, e2⟩ := k.obj i j e (by rw [he]; simp)
      rw [e1, e2]
      exact hv T l (k.row i j e T l he) hn hj
  | @func f a b x y ha hb _ _ iha ihb =>
    simp only [V.ren]
    refine .func (by rw [renL_len]; exact ha) (by rw [renL_len]; exact hb) (fun j v d hv hd => ?_) (fun j v d hv hd => ?_)
    · rw [renL_get] at hv
      cases e : a[j]? with
      | none => rw [e] at hv; cases hv
      | some u => rw [e] at hv; simp at hv; subst hv; exact iha j u d e hd
    · rw [renL_get] at hv
      cases e : b[j]? with
      | none => rw [e] at hv; cases hv
      | some u => rw [e] at hv; simp at hv; subst hv; exact ihb j u d e hd
  | @agg cs x hl _ ih =>
    simp only [V.ren]
    refine .agg (by rw [renL_len]; exact hl) (fun j v d hv hd => ?_)
    rw [renL_get] at hv
    cases e : cs[j]? with
    | none => rw [e] at hv; cases hv
    | some u => rw [e] at hv; simp at hv; subst hv; exact ih j u d e hd
  | @tuple cs x hl _ ih =>
    simp only [V.ren]
    refine .tuple (by rw [renL_len]; exact hl) (fun j v d hv hd => ?_)
    rw [renL_get] at hv
    cases e : cs[j]? with
    | none => rw [e] at hv; cases hv
    | some u => rw [e] at hv; simp at hv; subst hv; exact ih j u d e hd

theorem RepL.ren {ρ : Nat → Option Nat} (k : RenOK ρ h c h2 c2) {cs : List V} {ds : List Value} (r : RepL w h c cs ds) : RepL w h2 c2 (V.renL ρ cs) ds := by
  refine ⟨by rw [renL_len]; exact r.1, fun j v d hv hd => ?_⟩
  rw [renL_get] at hv
  cases e : cs[j]? with
  | none => rw [e] at hv; cases hv
  | some u => rw [e] at hv; simp at hv; subst hv; exact (r.2 j u d e hd).ren k

theorem cells_ren (ρ : Nat → Option Nat) (T : Ty) (x : T.den) : ∀ v ∈ T.cells x, v.ren ρ = v := by cases T <;> simp [Ty.cells, V.ren, Tok.ren]

theorem ObjOK.ren {ρ : Nat → Option Nat} (k : RenOK ρ h c h2 c2) {i j : Nat} {o : AObj} (e1 : c2.blk j = c.blk i) (e2 : c2.off j = c.off i) (ho : ObjOK w h c i o) : ObjOK w h2 c2 j (o.ren ρ) := by
  cases o <;> simp only [ObjOK, AObj.ren] at ho ⊢
  · obtain ⟨b, arr, e, h1, h2', h3⟩ := ho
    exact ⟨b, arr, e, e1 ▸ h1, h2', h3.ren k⟩
  · rw [e1, e2]
    rcases ho with h1 | ⟨b, arr, e, fz, h1, h2', h3, h4, h5⟩
    · exact .inl h1
    · refine .inr ⟨b, arr, e, fz, h1, h2', h3, h4, fun n q x v hx hv => ?_⟩
      obtain ⟨d, g1, g2⟩ := h5 n q x v hx hv
      refine ⟨d, g1, ?_⟩
      have := g2.ren k
      rw [cells_ren ρ _ x v (List.mem_of_getElem? hv)] at this
      exact this
  · rw [e1, e2]; exact ho
  · rw [e1]; exact ho
  · rw [e1]
    obtain ⟨b, p, d, h1, h2', h3, h4⟩ := ho
    exact ⟨b, p, d, h1, h2', h3, h4.ren k⟩
  · rw [e1]
    obtain ⟨b, es, cl, h1, h2', h3, h4, h5, h6⟩ := ho
    refine ⟨b, es, cl, h1, h2', h3, h4, h5, fun j q e hq he => ?_⟩
    obtain ⟨g1, g2⟩ := h6 j q e hq he
    have g1' := g1.ren k
    have g2' := g2.ren k
    have key : ∀ (T : Ty) (x : T.den), (keyable T = true ∨ T.one = true) → (elV T x).ren ρ = elV T x := by
      intro T x hT
      cases T <;> first | (simp [elV, Ty.one, Ty.cells, V.ren]; done) | (simp [elV, Ty.one, Ty.cells, V.ren, V.renL]; done) | (simp [keyable, Ty.one] at hT)
    rw [key _ _ (.inl h3)] at g1'
    rw [key _ _ (.inr h4)] at g2'
    exact ⟨g1', g2'⟩

def Cfg.pick (c : Cfg) (ord : List Nat) (ext : ExtT) : Cfg :=
  ⟨fun j => (ord[j]?).bind c.blk, fun j => c.off (ord.getD j 0), ext⟩

theorem posIn_some {ord : List Nat} {i j : Nat} (e : posIn ord i = some j) : ord[j]? = some i := by
  unfold posIn at e
  simp only at e
  split at e
  · rename_i hlt
    cases e
    rw [List.getElem?_eq_getElem hlt, List.getElem_idxOf hlt]
  · cases e

theorem pick_at (h : Heap) (ord : List Nat) (j : Nat) : Heap.at (h.pick ord) j = match ord[j]? with | some i => (h.at i).ren (posIn ord) | none => .dead := by
  unfold Heap.at Heap.pick
  simp only [List.getD, List.getElem?_map]
  cases ord[j]? <;> rfl

theorem ren_dead {ρ : Nat → Option Nat} {o : AObj} : o.ren ρ = .dead ↔ o = .dead := by cases o <;> simp [AObj.ren]
theorem ren_free {ρ : Nat → Option Nat} {o : AObj} : o.ren ρ = .free ↔ o = .free := by cases o <;> simp [AObj.ren]
theorem ren_tok {ρ : Nat → Option Nat} {o : AObj} : o.ren ρ = .tok ↔ o = .tok := by cases o <;> simp [AObj.ren]
theorem ren_row {ρ : Nat → Option Nat} {o : AObj} {T : Ty} {l : List T.den} : o.ren ρ = .row T l ↔ o = .row T l := by cases o <;> simp [AObj.ren]
theorem ren_from {ρ : Nat → Option Nat} {o : AObj} {f : Nat} : (o.ren ρ).from_ f = o.from_ f := by cases o <;> rfl
theorem ren_live {ρ : Nat → Option Nat} {o : AObj} : (o.ren ρ).live ↔ o.live := by cases o <;> simp [AObj.ren, AObj.live]

theorem pick_owns {ord : List Nat} {ext : ExtT} {b x : Nat} (ho : Owns (h.pick ord) (c.pick ord ext) b x) : ∃ i ∈ ord, ∃ f, c.blk i = some b ∧ (h.at i).from_ (c.off i) = some f ∧ f ≤ x := by
  obtain ⟨j, f, g1, g2, g3⟩ := ho
  rw [pick_at] at g2
  cases e : ord[j]? with
  | none => rw [e] at g2; cases g2
  | some i =>
    rw [e] at g2
    simp only [Cfg.pick, e, Option.bind_some] at g1
    simp only [ren_from, Cfg.pick, List.getD, e, Option.getD_some] at g2
    exact ⟨i, List.mem_of_getElem? e, f, g1, g2, g3⟩

theorem pick_ren {ord : List Nat} {ext : ExtT} (hfree : ∀ b x, Free h c b x → ¬ ext b x) : RenOK (posIn ord) h c (h.pick ord) (c.pick ord ext) where
  used := fun i j e hu => by
    have hj := posIn_some e
    refine ⟨?_, ?_⟩
    · have := (List.getElem?_eq_some_iff.1 hj).1
      simpa [Heap.pick] using this
    · rw [pick_at, hj]
      simp only [ne_eq, ren_free]
      exact hu.2
  obj := fun i j e hd => by
    have hj := posIn_some e
    rw [pick_at, hj] at hd
    simp only [ne_eq, ren_dead] at hd
    exact ⟨hd, by simp [Cfg.pick, hj], by simp [Cfg.pick, List.getD, hj]⟩
  tok := fun i j e ht => by
    rw [pick_at, posIn_some e] at ht
    exact ren_tok.1 ht
  row := fun i j e T l ht => by
    rw [pick_at, posIn_some e] at ht
    exact ren_row.1 ht
  free := fun b x hf => ⟨fun ho => by
    obtain ⟨i, _, f, g1, g2, g3⟩ := pick_owns ho
    exact hf.1 ⟨i, f, g1, g2, g3⟩, hfree b x hf⟩

theorem pick_wf (wf : WF w h c) {ord : List Nat} (hnd : ord.Nodup) {ext : ExtT} (hfree : ∀ b x, Free h c b x → ¬ ext b x) (hlt : ∀ b x, ext b x → b < w.heap.size)
    (hdis : ∀ b x, (∃ i ∈ ord, ∃ f, c.blk i = some b ∧ (h.at i).from_ (c.off i) = some f ∧ f ≤ x) → ¬ ext b x) : WF w (h.pick ord) (c.pick ord ext) where
  lay := ⟨wf.lay.1, fun b hb => ⟨(wf.lay.2 b hb).1, fun x ho => by
    obtain ⟨i, _, f, g1, g2, g3⟩ := pick_owns ho
    exact (wf.lay.2 b hb).2 x ⟨i, f, g1, g2, g3⟩⟩⟩
  disj := fun b x ho => hdis b x (pick_owns ho)
  extlt := hlt
  obj := fun j hj => by
    rw [pick_at]
    cases e : ord[j]? with
    | none => trivial
    | some i =>
      by_cases hl : (h.at i).live
      · exact (wf.obj i (Heap.at_live rfl (live_ne_dead hl))).ren (pick_ren hfree) (by simp [Cfg.pick, e]) (by simp [Cfg.pick, List.getD, e])
      · have h0 : h.at i = .free ∨ h.at i = .dead := by revert hl; cases h.at i <;> simp [AObj.live]
        rcases h0 with h0 | h0 <;> simp only [h0, AObj.ren] <;> trivial
  inj := fun j k b hj hk h1 h2 => by
    rw [pick_at] at hj hk
    cases e1 : ord[j]? with
    | none => rw [e1] at hj; exact hj.elim
    | some i1 =>
      cases e2 : ord[k]? with
      | none => rw [e2] at hk; exact hk.elim
      | some i2 =>
        rw [e1] at hj; rw [e2] at hk
        simp only [Cfg.pick, e1, e2, Option.bind_some] at h1 h2
        have := wf.inj i1 i2 b (ren_live.1 hj) (ren_live.1 hk) h1 h2
        subst this
        obtain ⟨hj', e1'⟩ := List.getElem?_eq_some_iff.1 e1
        obtain ⟨hk', e2'⟩ := List.getElem?_eq_some_iff.1 e2
        have hp := List.pairwise_iff_getElem.1 hnd
        rcases Nat.lt_trichotomy j k with hlt | rfl | hlt
        · exact (hp j k hj' hk' hlt (e1'.trans e2'.symm)).elim
        · rfl
        · exact (hp k j hk' hj' hlt (e2'.trans e1'.symm)).elim

theorem reach_nodup (h : Heap) : ∀ (n : Nat) (todo seen : List Nat), seen.Nodup → (reach h n todo seen).Nodup
  | 0, _, _, hn => hn
  | n + 1, [], _, hn => hn
  | n + 1, i :: todo, seen, hn => by
    simp only [reach]
    split
    · exact reach_nodup h n _ _ hn
    · rename_i hc
      refine reach_nodup h n _ _ ?_
      rw [List.nodup_append]
      refine ⟨hn, by simp, fun a ha b hb => ?_⟩
      simp at hb; subst hb
      rintro rfl
      simp at hc
      exact hc ha
end

section
variable {w w' : World} {h h' : Heap} {c c' : Cfg}

theorem idsL_mem {i : Nat} : ∀ {cs : List V}, i ∈ V.idsL cs ↔ ∃ (j : Nat) (v : V), cs[j]? = some v ∧ i ∈ v.ids
  | [] => by simp [V.idsL]
  | v :: cs => by
    simp only [V.idsL, List.mem_append, idsL_mem (cs := cs)]
    constructor
    · rintro (h | ⟨j, u, h1, h2⟩)
      · exact ⟨0, v, rfl, h⟩
      · exact ⟨j + 1, u, h1, h2⟩
    · rintro ⟨j, u, h1, h2⟩
      cases j with
      | zero => simp at h1; subst h1; exact .inl h2
      | succ j => exact .inr ⟨j, u, h1, h2⟩

theorem Rep.ids_used {v : V} {d : Value} (r : Rep w h c v d) : ∀ i ∈ v.ids, Used h i := by
  induction r with
  | undef v => simp [V.ids]
  | int hn => simp [V.ids]
  | bool b => simp [V.ids]
  | str hl => simp [V.ids]
  | nilptr => simp [V.ids]
  | nilsl => simp [V.ids]
  | nilfunc => simp [V.ids]
  | nilmap => simp [V.ids]
  | niliface => simp [V.ids]
  | iface t v => simp [V.ids]
  | ifi hn => simp [V.ids]
  | anyb b => simp [V.ids]
  | ptr hi _ => simpa [V.ids] using hi
  | map hi _ => simpa [V.ids] using hi
  | row hi _ _ => simpa [V.ids] using hi
  | rview hi _ _ => simpa [V.ids] using hi
  | rptr hi _ => simpa [V.ids] using hi
  | iptr f hc _ ih =>
    intro i hi
    simp only [V.ids] at hi
    obtain ⟨j, v, h1, h2⟩ := idsL_mem.1 hi
    exact ih j v h1 i h2
  | @sl T l t A cap f hcap hmx hc hr hnil hown ih =>
    intro i hi
    cases t with
    | no => simp [V.ids] at hi
    | nil => simp [V.ids] at hi
    | own j => simp [V.ids] at hi; subst hi; exact (hown i rfl).1
  | vsl hn hmx f hc _ ih =>
    intro i hi
    simp only [V.ids] at hi
    obtain ⟨j, v, h1, h2⟩ := idsL_mem.1 hi
    exact ih j v h1 i h2
  | @func f a b x y ha hb _ _ iha ihb =>
    intro i hi
    simp only [V.ids, List.mem_append] at hi
    rcases hi with hi | hi
    · obtain ⟨j, v, h1, h2⟩ := idsL_mem.1 hi
      have hj := (List.getElem?_eq_some_iff.1 h1).1
      exact iha j v _ h1 (Array.getElem?_eq_getElem (by omega)) i h2
    · obtain ⟨j, v, h1, h2⟩ := idsL_mem.1 hi
      have hj := (List.getElem?_eq_some_iff.1 h1).1
      exact ihb j v _ h1 (Array.getElem?_eq_getElem (by omega)) i h2
  | agg hl _ ih =>
    intro i hi
    simp only [V.ids] at hi
    obtain ⟨j, v, h1, h2⟩ := idsL_mem.1 hi
    have hj := (List.getElem?_eq_some_iff.1 h1).1
    exact ih j v _ h1 (Array.getElem?_eq_getElem (by omega)) i h2
  | tuple hl _ ih =>
    intro i hi
    simp only [V.ids] at hi
    obtain ⟨j, v, h1, h2⟩ := idsL_mem.1 hi
    have hj := (List.getElem?_eq_some_iff.1 h1).1
    exact ih j v _ h1 (Array.getElem?_eq_getElem (by omega)) i h2

theorem RepL.ids_used {cs : List V} {ds : List Value} (r : RepL w h c cs ds) : ∀ i ∈ V.idsL cs, Used h i := by
  intro i hi
  obtain ⟨j, v, h1, h2⟩ := idsL_mem.1 hi
  have hj := (List.getElem?_eq_some_iff.1 h1).1
  exact (r.2 j v _ h1 (List.getElem?_eq_getElem (by have := r.1; omega))).ids_used i h2

theorem WF.ids_used (wf : WF w h c) (i : Nat) : ∀ j ∈ (h.at i).ids, Used h j := by
  intro j hj
  cases e : h.at i with
  | cells cs =>
    rw [e] at hj
    have ho := wf.obj i (Heap.at_live rfl (by rw [e]; simp))
    rw [e] at ho
    obtain ⟨b, arr, el, _, _, r⟩ := ho
    exact r.ids_used j hj
  | bld v =>
    rw [e] at hj
    have ho := wf.obj i (Heap.at_live rfl (by rw [e]; simp))
    rw [e] at ho
    obtain ⟨b, p, d, _, _, _, r⟩ := ho
    exact r.ids_used j hj
  | _ => rw [e] at hj; simp [AObj.ids] at hj

theorem reach_used (wf : WF w h c) : ∀ (n : Nat) (todo seen : List Nat), (∀ i ∈ todo, Used h i) → (∀ i ∈ seen, Used h i) → ∀ i ∈ reach h n todo seen, Used h i
  | 0, _, _, _, hs => hs
  | n + 1, [], _, _, hs => hs
  | n + 1, i :: todo, seen, ht, hs => by
    simp only [reach]
    split
    · exact reach_used wf n _ _ (fun j hj => ht j (by simp [hj])) hs
    · refine reach_used wf n _ _ (fun j hj => ?_) (fun j hj => ?_)
      · rcases List.mem_append.1 hj with hj | hj
        · exact ht j (by simp [hj])
        · exact wf.ids_used i j hj
      · rcases List.mem_append.1 hj with hj | hj
        · exact hs j hj
        · simp at hj; subst hj; exact ht j (by simp)

theorem Owns.lt (wf : WF w h c) {b x : Nat} (ho : Owns h c b x) : b < w.heap.size := by
  obtain ⟨i, f, h1, h2, _⟩ := ho
  have hl : (h.at i).live := by cases e : h.at i <;> rw [e] at h2 <;> simp_all [AObj.from_, AObj.live]
  exact (wf.obj i (Heap.at_live rfl (live_ne_dead hl))).lt hl h1

theorem live_from {o : AObj} (h : o.live) (f : Nat) : ∃ g, o.from_ f = some g := by cases o <;> simp_all [AObj.from_, AObj.live]

def OwnedIn (h : Heap) (c : Cfg) (ord : List Nat) (b x : Nat) : Prop := ∃ i ∈ ord, ∃ f, c.blk i = some b ∧ (h.at i).from_ (c.off i) = some f ∧ f ≤ x

def extOf (h : Heap) (c : Cfg) (ord : List Nat) : ExtT := ⟨fun b x => c.ext b x ∨ (Owns h c b x ∧ ¬ OwnedIn h c ord b x)⟩

theorem OwnedIn.owns {ord : List Nat} {b x : Nat} (o : OwnedIn h c ord b x) : Owns h c b x := by obtain ⟨i, _, f, h1, h2, h3⟩ := o; exact ⟨i, f, h1, h2, h3⟩

theorem extOf_free {ord : List Nat} : ∀ b x, Free h c b x → ¬ extOf h c ord b x := by
  rintro b x hf (he | he)
  · exact hf.2 he
  · exact hf.1 he.1

theorem callee_wf (wf : WF w h c) {ord : List Nat} (hnd : ord.Nodup) : WF w (h.pick ord) (c.pick ord (extOf h c ord)) := by
  refine pick_wf wf hnd extOf_free ?_ ?_
  · rintro b x (he | he)
    · exact wf.extlt b x he
    · exact he.1.lt wf
  · rintro b x ho (he | he)
    · exact wf.disj b x (OwnedIn.owns ho) he
    · exact he.2 ho

theorem callee_rep {ord : List Nat} {cs : List V} {ds : List Value} (r : RepL w h c cs ds) : RepL w (h.pick ord) (c.pick ord (extOf h c ord)) (V.renL (posIn ord) cs) ds :=
  r.ren (pick_ren extOf_free)

theorem putAll_length : ∀ (l : List (Nat × AObj)) (h : Heap), (Heap.putAll h l).length = h.length
  | [], _ => rfl
  | (i, o) :: l, h => by simp [Heap.putAll, putAll_length l]

theorem putAll_not {i : Nat} : ∀ (ord : List Nat) (os : List AObj) (h : Heap), i ∉ ord → Heap.at (Heap.putAll h (ord.zip os)) i = h.at i
  | [], _, _, _ => rfl
  | _ :: _, [], _, _ => rfl
  | a :: ord, o :: os, h, hn => by
    simp only [List.zip_cons_cons, Heap.putAll]
    rw [putAll_not ord os _ (fun hm => hn (by simp [hm]))]
    exact at_set_ne _ (fun e => hn (by simp [e]))

theorem putAll_in {i : Nat} : ∀ (ord : List Nat) (os : List AObj) (h : Heap) (j : Nat) (o : AObj), ord.Nodup → ord[j]? = some i → os[j]? = some o → i < h.length → Heap.at (Heap.putAll h (ord.zip os)) i = o
  | [], _, _, _, _, _, hj, _, _ => by simp at hj
  | _ :: _, [], _, _, _, _, _, ho, _ => by simp at ho
  | a :: ord, p :: os, h, j, o, hnd, hj, ho, hi => by
    simp only [List.zip_cons_cons, Heap.putAll]
    cases j with
    | zero =>
      simp at hj ho
      subst hj; subst ho
      rw [putAll_not ord os _ (by simpa using (List.nodup_cons.1 hnd).1)]
      exact at_set_eq _ hi
    | succ j => exact putAll_in ord os _ j o (List.nodup_cons.1 hnd).2 (by simpa using hj) (by simpa using ho) (by simpa using hi)

theorem at_append_left {a b : Heap} {i : Nat} (hi : i < a.length) : Heap.at (a ++ b) i = Heap.at a i := by simp [Heap.at, List.getD, List.getElem?_append_left hi]
theorem at_append_right {a b : Heap} {i : Nat} (hi : a.length ≤ i) : Heap.at (a ++ b) i = Heap.at b (i - a.length) := by simp [Heap.at, List.getD, List.getElem?_append_right hi]

theorem posIn_at {ord : List Nat} (hnd : ord.Nodup) {i j : Nat} (e : ord[j]? = some i) : posIn ord i = some j := by
  obtain ⟨hj, rfl⟩ := List.getElem?_eq_some_iff.1 e
  have hm : ord[j] ∈ ord := List.getElem_mem hj
  have hlt : ord.idxOf ord[j] < ord.length := List.idxOf_lt_length_of_mem hm
  unfold posIn
  simp only [hlt, if_true]
  have hg := List.getElem_idxOf hlt
  have hp := List.pairwise_iff_getElem.1 hnd
  rcases Nat.lt_trichotomy (ord.idxOf ord[j]) j with hl | he | hl
  · exact (hp _ _ hlt hj hl hg).elim
  · rw [he]
  · exact (hp _ _ hj hlt hl hg.symm).elim

theorem posIn_none {ord : List Nat} {i : Nat} (h : i ∉ ord) : posIn ord i = none := by
  cases e : posIn ord i with
  | none => rfl
  | some j => exact (h (List.mem_of_getElem? (posIn_some e))).elim

def Cfg.back (c : Cfg) (ord : List Nat) (n : Nat) (c' : Cfg) : Cfg :=
  ⟨fun i => match posIn ord i with | some j => c'.blk j | none => if i < n then c.blk i else c'.blk (i - n + ord.length),
   fun i => match posIn ord i with | some j => c'.off j | none => if i < n then c.off i else c'.off (i - n + ord.length), c.ext⟩

theorem back_at {ord : List Nat} (hnd : ord.Nodup) (hlt : ∀ i ∈ ord, i < h.length) (hle : ord.length ≤ h'.length) (i : Nat) :
    (∃ j, backId ord h.length j = i ∧ j < h'.length ∧ Heap.at (h.back ord h') i = (h'.at j).ren (fun j => some (backId ord h.length j)) ∧ (c.back ord h.length c').blk i = c'.blk j ∧ (c.back ord h.length c').off i = c'.off j) ∨
    (i ∉ ord ∧ i < h.length ∧ Heap.at (h.back ord h') i = h.at i ∧ (c.back ord h.length c').blk i = c.blk i ∧ (c.back ord h.length c').off i = c.off i) ∨
    ((h.back ord h').length ≤ i ∧ Heap.at (h.back ord h') i = .dead) := by
  have hlen : (h.back ord h').length = h.length + (h'.length - ord.length) := by simp [Heap.back, putAll_length]
  by_cases hm : i ∈ ord
  · obtain ⟨j, hj, e⟩ := List.mem_iff_getElem.1 hm
    have e' : ord[j]? = some i := by rw [List.getElem?_eq_getElem hj, e]
    have hi := hlt i hm
    refine .inl ⟨j, by simp [backId, hj, List.getD, e], by omega, ?_, by simp [Cfg.back, posIn_at hnd e'], by simp [Cfg.back, posIn_at hnd e']⟩
    unfold Heap.back
    simp only
    rw [at_append_left (by rw [putAll_length]; exact hi)]
    refine putAll_in ord _ h j _ hnd e' ?_ hi
    have hj' : j < h'.length := by omega
    simp [hj, Heap.at, List.getD, List.getElem?_eq_getElem hj']
  · by_cases hi : i < h.length
    · refine .inr (.inl ⟨hm, hi, ?_, by simp [Cfg.back, posIn_none hm, hi], by simp [Cfg.back, posIn_none hm, hi]⟩)
      unfold Heap.back
      simp only
      rw [at_append_left (by rw [putAll_length]; exact hi)]
      exact putAll_not ord _ h hm
    · by_cases hb : i < (h.back ord h').length
      · rw [hlen] at hb
        refine .inl ⟨i - h.length + ord.length, ?_, by omega, ?_, by simp [Cfg.back, posIn_none hm, hi], by simp [Cfg.back, posIn_none hm, hi]⟩
        · have : ¬ (i - h.length + ord.length < ord.length) := by omega
          simp only [backId, this, if_false]
          omega
        · unfold Heap.back
          simp only
          rw [at_append_right (by rw [putAll_length]; omega), putAll_length]
          have hb' : i - h.length + ord.length < h'.length := by omega
          have hq : ord.length + (i - h.length) = i - h.length + ord.length := by omega
          simp [Heap.at, List.getD, hq, List.getElem?_eq_getElem hb']
      · refine .inr (.inr ⟨by omega, ?_⟩)
        simp [Heap.at, List.getD, List.getElem?_eq_none (Nat.le_of_not_lt hb)]

theorem back_id {ord : List Nat} (hnd : ord.Nodup) (hlt : ∀ i ∈ ord, i < h.length) (hle : ord.length ≤ h'.length) (j : Nat) :
    Heap.at (h.back ord h') (backId ord h.length j) = (h'.at j).ren (fun j => some (backId ord h.length j)) ∧ (c.back ord h.length c').blk (backId ord h.length j) = c'.blk j ∧ (c.back ord h.length c').off (backId ord h.length j) = c'.off j := by
  have hlen : (h.back ord h').length = h.length + (h'.length - ord.length) := by simp [Heap.back, putAll_length]
  by_cases hj : j < ord.length
  · have hb : backId ord h.length j = ord[j] := by simp [backId, hj, List.getD]
    have e' : ord[j]? = some ord[j] := List.getElem?_eq_getElem hj
    have hi := hlt _ (List.getElem_mem hj)
    rw [hb]
    refine ⟨?_, by simp [Cfg.back, posIn_at hnd e'], by simp [Cfg.back, posIn_at hnd e']⟩
    unfold Heap.back
    simp only
    rw [at_append_left (by rw [putAll_length]; exact hi)]
    refine putAll_in ord _ h j _ hnd e' ?_ hi
    have hj' : j < h'.length := by omega
    simp [hj, Heap.at, List.getD, List.getElem?_eq_getElem hj']
  · have hb : backId ord h.length j = h.length + (j - ord.length) := by simp [backId, hj]
    have hm : h.length + (j - ord.length) ∉ ord := fun hm => by have := hlt _ hm; omega
    have hn : ¬ (h.length + (j - ord.length) < h.length) := by omega
    have hs : h.length + (j - ord.length) - h.length + ord.length = j := by omega
    rw [hb]
    refine ⟨?_, by simp only [Cfg.back, posIn_none hm, hn, if_false, hs], by simp only [Cfg.back, posIn_none hm, hn, if_false, hs]⟩
    unfold Heap.back
    simp only
    rw [at_append_right (by rw [putAll_length]; omega), putAll_length]
    have hq : h.length + (j - ord.length) - h.length = j - ord.length := by omega
    have hq2 : ord.length + (j - ord.length) = j := by omega
    rw [hq]
    by_cases hj' : j < h'.length
    · simp [Heap.at, List.getD, hq2, List.getElem?_eq_getElem hj']
    · simp [Heap.at, List.getD, hq2, List.getElem?_eq_none (Nat.le_of_not_lt hj'), AObj.ren]

theorem ren_sim_l {ρ : Nat → Option Nat} {o o' : AObj} : (o.ren ρ).sim o' ↔ o.sim o' := by cases o <;> cases o' <;> simp [AObj.ren, AObj.sim, renL_len]
theorem ren_sim_r {ρ : Nat → Option Nat} {o o' : AObj} : o.sim (o'.ren ρ) ↔ o.sim o' := by cases o <;> cases o' <;> simp [AObj.ren, AObj.sim, renL_len]
theorem sim_refl {o : AObj} (h : o.live) (hm : ∀ K T l, o ≠ .amap K T l ∨ True) : o.sim o := by cases o <;> simp_all [AObj.sim, AObj.live]

theorem call_back (wf : WF w h c) {ord : List Nat} (hnd : ord.Nodup) (hu : ∀ i ∈ ord, Used h i) (wf' : WF w' h' c') (x : Ext w (h.pick ord) (c.pick ord (extOf h c ord)) w' h' c') :
    WF w' (h.back ord h') (c.back ord h.length c') ∧ Ext w h c w' (h.back ord h') (c.back ord h.length c') ∧ RenOK (fun j => some (backId ord h.length j)) h' c' (h.back ord h') (c.back ord h.length c') := by
  have hlt : ∀ i ∈ ord, i < h.length := fun i hi => (hu i hi).1
  have hup : ∀ j, j < ord.length → Used (h.pick ord) j := fun j hj => by
    refine ⟨by simpa [Heap.pick] using hj, ?_⟩
    rw [pick_at, List.getElem?_eq_getElem hj]
    simp only [ne_eq, ren_free]
    exact (hu _ (List.getElem_mem hj)).2
  have hle : ord.length ≤ h'.length := by
    rcases Nat.eq_zero_or_pos ord.length with h0 | h0
    · omega
    · have := (x.used _ (hup (ord.length - 1) (by omega))).1; omega
  have hlen : (h.back ord h').length = h.length + (h'.length - ord.length) := by simp [Heap.back, putAll_length]
  -- who owns a cell
  have howns : ∀ b y, Owns (h.back ord h') (c.back ord h.length c') b y → Owns h' c' b y ∨ ∃ i f, i ∉ ord ∧ i < h.length ∧ c.blk i = some b ∧ (h.at i).from_ (c.off i) = some f ∧ f ≤ y := by
    rintro b y ⟨i, f, h1, h2, h3⟩
    rcases back_at (c := c) (c' := c') hnd hlt hle i with ⟨j, _, _, g1, g2, g3⟩ | ⟨g0, g1, g2, g3, g4⟩ | ⟨_, g1⟩
    · rw [g2] at h1; rw [g1, g3, ren_from] at h2
      exact .inl ⟨j, f, h1, h2, h3⟩
    · rw [g3] at h1; rw [g2, g4] at h2
      exact .inr ⟨i, f, g0, g1, h1, h2, h3⟩
    · rw [g1] at h2; cases h2
  have hown' : ∀ i f b y, i ∉ ord → c.blk i = some b → (h.at i).from_ (c.off i) = some f → f ≤ y → extOf h c ord b y := by
    intro i f b y hi h1 h2 h3
    refine .inr ⟨⟨i, f, h1, h2, h3⟩, ?_⟩
    rintro ⟨i2, hm, f2, g1, g2, g3⟩
    have := wf.inj i i2 b (from_live h2) (from_live g2) h1 g1
    subst this
    exact hi hm
  have hpick : ∀ b y, Owns (h.pick ord) (c.pick ord (extOf h c ord)) b y → OwnedIn h c ord b y := fun b y ho => pick_owns ho
  have hext : c'.ext = extOf h c ord := x.ext
  have hren : RenOK (fun j => some (backId ord h.length j)) h' c' (h.back ord h') (c.back ord h.length c') := by
    refine ⟨fun i j e hi => ?_, fun i j e hd => ?_, fun i j e ht => ?_, fun i j e T l ht => ?_, fun b y hf => ⟨fun ho => ?_, fun he => ?_⟩⟩
    · cases e
      obtain ⟨g1, _, _⟩ := back_id (c := c) (c' := c') hnd hlt hle i
      refine ⟨?_, by rw [g1]; simp only [ne_eq, ren_free]; exact hi.2⟩
      rw [hlen]
      unfold backId
      have := hi.1
      split
      · rename_i hj
        have := hlt _ (List.getElem_mem hj)
        simp only [List.getD, List.getElem?_eq_getElem hj, Option.getD_some]
        omega
      · omega
    · cases e
      obtain ⟨g1, g2, g3⟩ := back_id (c := c) (c' := c') hnd hlt hle i
      rw [g1] at hd
      simp only [ne_eq, ren_dead] at hd
      exact ⟨hd, g2, g3⟩
    · cases e
      rw [(back_id (c := c) (c' := c') hnd hlt hle i).1] at ht
      exact ren_tok.1 ht
    · cases e
      rw [(back_id (c := c) (c' := c') hnd hlt hle i).1] at ht
      exact ren_row.1 ht
    · rcases howns b y ho with ho | ⟨i, f, g0, _, g2, g3, g4⟩
      · exact hf.1 ho
      · exact hf.2 (by rw [hext]; exact hown' i f b y g0 g2 g3 g4)
    · exact hf.2 (by rw [hext]; exact .inl he)
  have hx : Ext w h c w' (h.back ord h') (c.back ord h.length c') := by
    refine ⟨x.os, x.tape, x.output, x.size, fun i hi => ?_, fun i hi hd => ?_, fun b y hb ho => x.cell b y hb (fun o => ho (hpick b y o).owns), fun b hb ho => x.block b hb (fun y o => ho y (hpick b y o).owns), fun b y hb ho => ?_, rfl, x.arr⟩
    · rcases back_at (c := c) (c' := c') hnd hlt hle i with ⟨j, g0, gj, g1, g2, g3⟩ | ⟨g0, g1, g2, g3, g4⟩ | ⟨g0, _⟩
      · refine ⟨by have := hi.1; omega, ?_⟩
        rw [g1]; simp only [ne_eq, ren_free]
        have hjo : j < ord.length := by
          unfold backId at g0
          split at g0
          · assumption
          · have := hi.1; omega
        exact (x.used j (hup j hjo)).2
      · exact ⟨by omega, by rw [g2]; exact hi.2⟩
      · have := hi.1; omega
    · rcases back_at (c := c) (c' := c') hnd hlt hle i with ⟨j, g0, gj, g1, g2, g3⟩ | ⟨g0, g1, g2, g3, g4⟩ | ⟨g0, _⟩
      · have hjo : j < ord.length := by
          unfold backId at g0
          split at g0
          · assumption
          · have := hi.1; omega
        have e : ord[j]? = some i := by
          simp only [backId, hjo, if_true, List.getD, List.getElem?_eq_getElem hjo, Option.getD_some] at g0
          rw [List.getElem?_eq_getElem hjo, g0]
        rw [g1] at hd ⊢
        simp only [ne_eq, ren_dead] at hd
        obtain ⟨s1, s2, s3⟩ := x.same j (hup j hjo) hd
        rw [pick_at, e] at s1
        rw [g2, g3, s2, s3]
        exact ⟨ren_sim_r.2 (ren_sim_l.1 s1), by simp [Cfg.pick, e], by simp [Cfg.pick, List.getD, e]⟩
      · rw [g2] at hd ⊢
        exact ⟨sim_refl (live_of hi.2 hd) (fun _ _ _ => .inr trivial), g3, g4⟩
      · have := hi.1; omega
    · rcases howns b y ho with ho | ⟨i, f, g0, _, g2, g3, g4⟩
      · exact (hpick b y (x.owns b y hb ho)).owns
      · exact ⟨i, f, g2, g3, g4⟩
  refine ⟨⟨fun b y ho he => ?_, fun b y he => Nat.lt_of_lt_of_le (wf.extlt b y he) x.size, fun i hi => ?_, fun i j b hi hj h1 h2 => ?_, wf.lay_ext hx⟩, hx, hren⟩
  · rcases howns b y ho with ho | ⟨i, f, g0, _, g2, g3, g4⟩
    · exact wf'.disj b y ho (by rw [hext]; exact .inl he)
    · exact wf.disj b y ⟨i, f, g2, g3, g4⟩ he
  · rcases back_at (c := c) (c' := c') hnd hlt hle i with ⟨j, g0, gj, g1, g2, g3⟩ | ⟨g0, g1, g2, g3, g4⟩ | ⟨_, g0⟩
    · rw [g1]
      exact (wf'.obj j gj).ren hren g2 g3
    · rw [g2]
      by_cases hl : (h.at i).live
      · refine (wf.obj i g1).keep hx (fun b hb => x.block b ((wf.obj i g1).lt hl hb) fun y o => ?_) g3 g4
        obtain ⟨i2, hm, f2, k1, k2, _⟩ := hpick b y o
        have := wf.inj i i2 b hl (from_live k2) hb k1
        subst this
        exact g0 hm
      · have h0 : h.at i = .free ∨ h.at i = .dead := by revert hl; cases h.at i <;> simp [AObj.live]
        rcases h0 with h0 | h0 <;> rw [h0] <;> trivial
    · rw [g0]; trivial
  · have key : ∀ i j b, i ∉ ord → (h.at i).live → c.blk i = some b → (h'.at j).live → c'.blk j = some b → False := by
      intro i j b hi hl hb hl' hb'
      have hbl := (wf.obj i (Heap.at_live rfl (live_ne_dead hl))).lt hl hb
      obtain ⟨f, hf⟩ := live_from hl' (c'.off j)
      obtain ⟨i2, hm, f2, k1, k2, _⟩ := hpick b f (x.owns b f hbl ⟨j, f, hb', hf, Nat.le_refl _⟩)
      have := wf.inj i i2 b hl (from_live k2) hb k1
      subst this
      exact hi hm
    rcases back_at (c := c) (c' := c') hnd hlt hle i with ⟨i', a0, _, a1, a2, a3⟩ | ⟨a0, a1, a2, a3, a4⟩ | ⟨_, a0⟩
    · rcases back_at (c := c) (c' := c') hnd hlt hle j with ⟨j', b0, _, b1, b2, b3⟩ | ⟨b0, b1, b2, b3, b4⟩ | ⟨_, b0⟩
      · rw [a1, ren_live] at hi; rw [b1, ren_live] at hj
        rw [a2] at h1; rw [b2] at h2
        rw [← a0, ← b0, wf'.inj i' j' b hi hj h1 h2]
      · rw [a1, ren_live] at hi; rw [b2] at hj
        rw [a2] at h1; rw [b3] at h2
        exact (key j i' b b0 hj h2 hi h1).elim
      · rw [b0] at hj; exact hj.elim
    · rcases back_at (c := c) (c' := c') hnd hlt hle j with ⟨j', b0, _, b1, b2, b3⟩ | ⟨b0, b1, b2, b3, b4⟩ | ⟨_, b0⟩
      · rw [a2] at hi; rw [b1, ren_live] at hj
        rw [a3] at h1; rw [b2] at h2
        exact (key i j' b a0 hi h1 hj h2).elim
      · rw [a2] at hi; rw [b2] at hj
        rw [a3] at h1; rw [b3] at h2
        exact wf.inj i j b hi hj h1 h2
      · rw [b0] at hj; exact hj.elim
    · rw [a0] at hi; exact hi.elim
end

section
variable {tt : TTab} {h : Heap} {R : Type}

theorem partK_nat {t off : Nat} {cs : List V} {k0 : V → Option R} {r : R} (hk : partK tt t cs off k0 = some r) :
    ∃ v, k0 v = some r ∧ ∀ k : V → Option R, partK tt t cs off k = k v := by
  unfold partK at hk
  split at hk
  · rename_i hok
    split at hk
    · rename_i hagg
      split at hk
      · rename_i hsz
        exact ⟨_, hk, fun k => by simp [partK, hok, hagg, hsz]⟩
      · cases hk
    · rename_i hagg
      split at hk
      · rename_i v hv
        exact ⟨_, hk, fun k => by simp [partK, hok, hagg, hv]⟩
      · cases hk
  · cases hk

theorem binK_nat {op : BinOp} {x y : V} {k0 : V → Option R} {r : R} (hk : binK op x y k0 = some r) :
    ∃ v, k0 v = some r ∧ ∀ k : V → Option R, binK op x y k = k v := by
  unfold binK at hk
  split at hk
  · obtain ⟨hb, hk⟩ := chk_some hk
    exact ⟨_, hk, fun k => by simp [binK, chk, hb]⟩
  · obtain ⟨hb, hk⟩ := chk_some hk
    exact ⟨_, hk, fun k => by simp [binK, chk, hb]⟩
  · split at hk
    · rename_i hij
      subst hij
      split at hk <;> first
        | (exact ⟨_, hk, fun k => by simp [binK]⟩)
        | (obtain ⟨hb, hk⟩ := chk_some hk; exact ⟨_, hk, fun k => by simp only [binK, hb, chk, cond_true, if_true]⟩)
        | cases hk
    · cases hk
  · split at hk <;> first
        | (exact ⟨_, hk, fun k => by simp [binK]⟩)
        | (obtain ⟨hb, hk⟩ := chk_some hk; exact ⟨_, hk, fun k => by simp only [binK, hb, chk, cond_true]⟩)
        | cases hk
  · split at hk
    · exact ⟨_, hk, fun k => by simp [binK, *]⟩
    · cases hk
  · split at hk
    · exact ⟨_, hk, fun k => by simp [binK, *]⟩
    · cases hk
  · cases hk

theorem ptrK_nat {op : BinOp} {x y : V} {k0 : V → Option R} {r : R} (hk : ptrK op x y k0 = some r) :
    ∃ v, k0 v = some r ∧ ∀ k : V → Option R, ptrK op x y k = k v := by
  unfold ptrK at hk
  split at hk
  · split at hk
    · exact ⟨_, hk, fun k => by simp [ptrK, *]⟩
    · exact ⟨_, hk, fun k => by simp [ptrK, *]⟩
    · cases hk
  · cases hk

theorem ifK_nat {op : BinOp} {o : Operand} {x y : V} {k0 : V → Option R} {r : R} (hk : ifK op o x y k0 = some r) :
    ∃ v, k0 v = some r ∧ ∀ k : V → Option R, ifK op o x y k = k v := by
  unfold ifK at hk
  split at hk <;> first | (exact ⟨_, hk, fun k => by simp [ifK]⟩) | cases hk

theorem nilOf_nat {a : V} {neg : Bool} {k0 : V → Option R} {r : R} (hk : nilOf a (fun r => k0 (nilAns neg r)) = some r) :
    ∃ v, k0 v = some r ∧ ∀ k : V → Option R, nilOf a (fun r => k (nilAns neg r)) = k v := by
  unfold nilOf at hk
  split at hk <;> try cases hk
  · exact ⟨_, hk, fun k => by simp [nilOf]⟩
  · rename_i l _
    cases hl : l.isEmpty with
    | true => rw [hl] at hk; exact ⟨_, hk, fun k => by simp only [nilOf, hl]; rfl⟩
    | false => rw [hl] at hk; exact ⟨_, hk, fun k => by simp only [nilOf, hl]; rfl⟩
  · rename_i n
    cases hl : decide (n = 0) with
    | true => rw [hl] at hk; exact ⟨_, hk, fun k => by simp only [nilOf, hl]; rfl⟩
    | false => rw [hl] at hk; exact ⟨_, hk, fun k => by simp only [nilOf, hl]; rfl⟩

theorem slK_nat {op : BinOp} {x y : V} {k0 : V → Option R} {r : R} (hk : slK op x y k0 = some r) :
    ∃ v, k0 v = some r ∧ ∀ k : V → Option R, slK op x y k = k v := by
  unfold slK at hk
  split at hk
  · split at hk
    · obtain ⟨v, h1, h2⟩ := nilOf_nat hk
      exact ⟨v, h1, fun k => by simp [slK, h2]⟩
    · obtain ⟨v, h1, h2⟩ := nilOf_nat hk
      exact ⟨v, h1, fun k => by simp [slK, h2]⟩
    · cases hk
  · cases hk

theorem optI_nat {v : Option V} {d : Int} {k0 : Int → Option R} {r : R} (hk : optI v d k0 = some r) :
    ∃ n, k0 n = some r ∧ ∀ k : Int → Option R, optI v d k = k n := by
  unfold optI at hk
  split at hk
  · exact ⟨_, hk, fun k => rfl⟩
  · exact ⟨_, hk, fun k => rfl⟩
  · cases hk

theorem opP_nat {o : Op} {ρ : Operand → V} {k0 : V → Option R} {r : R} (hk : opP tt o ρ k0 = some r) :
    ∃ v, k0 v = some r ∧ ∀ k : V → Option R, opP tt o ρ k = k v := by
  cases o <;> simp only [opP] at hk ⊢ <;> try (first | cases hk)
  case move x => exact ⟨_, hk, fun k => rfl⟩
  case assign x => exact ⟨_, hk, fun k => rfl⟩
  case pick c a b =>
    split at hk
    · rename_i t ht
      split at hk
      · rename_i u v hu hv
        exact ⟨_, hk, fun k => by simp [ht, hu, hv]⟩
      · rename_i u v hn
        refine ⟨bif t then ρ a else ρ b, by cases t <;> exact hk, fun k => ?_⟩
        cases t <;> rfl
    · cases hk
  case nilCheck x =>
    split at hk <;> first | (exact ⟨_, hk, fun k => by simp [*]⟩) | cases hk
  case binOp op t x y _ =>
    split at hk
    · split at hk
      · obtain ⟨v, h1, h2⟩ := binK_nat hk
        exact ⟨v, h1, fun k => by simp [*]⟩
      · cases hk
    · split at hk
      · obtain ⟨v, h1, h2⟩ := binK_nat hk
        exact ⟨v, h1, fun k => by simp [*]⟩
      · cases hk
    · obtain ⟨v, h1, h2⟩ := binK_nat hk
      exact ⟨v, h1, fun k => by simp [*]⟩
    · obtain ⟨v, h1, h2⟩ := binK_nat hk
      exact ⟨v, h1, fun k => by simp [*]⟩
    · rename_i n1 n2 n3 n4
      split at hk
      · rename_i hd
        obtain ⟨v, h1, h2⟩ := ptrK_nat hk
        exact ⟨v, h1, fun k => by simp [*]⟩
      · rename_i hd
        obtain ⟨v, h1, h2⟩ := slK_nat hk
        exact ⟨v, h1, fun k => by simp [*]⟩
      · rename_i hd
        obtain ⟨v, h1, h2⟩ := ifK_nat hk
        exact ⟨v, h1, fun k => by simp [*]⟩
      · cases hk
  case unOp op _ x =>
    split at hk <;> first | (exact ⟨_, hk, fun k => by simp [*]⟩) | cases hk
  case makeInterface t x =>
    split at hk <;> first | (exact ⟨_, hk, fun k => by simp [*]⟩) | cases hk
  case convert s d x =>
    split at hk
    · cases hk
    · split at hk
      · exact ⟨_, hk, fun k => by simp [*]⟩
      · split at hk
        · exact ⟨_, hk, fun k => by simp [*]⟩
        · cases hk
      · cases hk
  case fieldAddr s x f =>
    split at hk <;> try (first | cases hk)
    split at hk <;> try (first | cases hk)
    split at hk <;> try (first | cases hk)
    split at hk <;> first | (exact ⟨_, hk, fun k => by simp_all⟩) | cases hk
  case field s x f =>
    split at hk <;> try (first | cases hk)
    split at hk <;> try (first | cases hk)
    obtain ⟨v, h1, h2⟩ := partK_nat hk
    exact ⟨v, h1, fun k => by simp [*]⟩
  case indexAddr t x i =>
    unfold idxOf at hk ⊢
    split at hk <;> try (first | cases hk)
    split at hk <;> try (first | cases hk)
    · split at hk <;> try (first | cases hk)
      obtain ⟨hb, hk⟩ := chk_some hk
      exact ⟨_, hk, fun k => by simp_all [chk]⟩
    · split at hk <;> try (first | cases hk)
      obtain ⟨hb, hk⟩ := chk_some hk
      exact ⟨_, hk, fun k => by simp_all [chk]⟩
    · split at hk <;> try (first | cases hk)
      obtain ⟨hb, hk⟩ := chk_some hk
      exact ⟨_, hk, fun k => by simp_all [chk]⟩
    · split at hk <;> try (first | cases hk)
      rename_i hc
      obtain ⟨hb, hk⟩ := chk_some hk
      exact ⟨_, hk, fun k => by simp only [*, if_true, chk, cond_true]⟩
    · split at hk <;> try (first | cases hk)
      rename_i hc
      obtain ⟨hb, hk⟩ := chk_some hk
      exact ⟨_, hk, fun k => by simp only [*, if_true, chk, cond_true]⟩
  case index t x i =>
    unfold idxOf at hk ⊢
    split at hk <;> try (first | cases hk)
    split at hk <;> try (first | cases hk)
    · obtain ⟨hb, hk⟩ := chk_some hk
      exact ⟨_, hk, fun k => by simp_all [chk]⟩
    · obtain ⟨hb, hk⟩ := chk_some hk
      obtain ⟨v, h1, h2⟩ := partK_nat hk
      exact ⟨v, h1, fun k => by simp_all [chk]⟩
  case slice t x lo hi mx =>
    split at hk <;> try (first | cases hk)
    split at hk <;> try (first | cases hk)
    · rename_i hd hx
      obtain ⟨n, hk, e1⟩ := optI_nat hk
      obtain ⟨m, hk, e2⟩ := optI_nat hk
      obtain ⟨hb, hk⟩ := chk_some hk
      obtain ⟨hb2, hk⟩ := chk_some hk
      exact ⟨_, hk, fun k => by simp only [hd, hx, e1, e2, hb, hb2, chk, cond_true]⟩
    · rename_i hd hx
      split at hk <;> try (first | cases hk)
      rename_i hc
      obtain ⟨n, hk, e1⟩ := optI_nat hk
      split at hk
      · obtain ⟨hb, hk⟩ := chk_some hk
        exact ⟨_, hk, fun k => by simp only [hd, hx, hc, e1, hb, chk, cond_true, if_true]⟩
      · obtain ⟨m, hk, e2⟩ := optI_nat hk
        obtain ⟨hb, hk⟩ := chk_some hk
        obtain ⟨hb2, hk⟩ := chk_some hk
        exact ⟨_, hk, fun k => by simp only [hd, hx, hc, e1, e2, hb, hb2, chk, cond_true, if_true]⟩
    · rename_i hd hx
      split at hk <;> try (first | cases hk)
      rename_i hc
      obtain ⟨n, hk, e1⟩ := optI_nat hk
      obtain ⟨m, hk, e2⟩ := optI_nat hk
      obtain ⟨hb, hk⟩ := chk_some hk
      exact ⟨_, hk, fun k => by rw [if_neg hc]; simp only [e1, e2, hb, chk, cond_true]⟩
    · rename_i hd hx
      split at hk <;> try (first | cases hk)
      rename_i hc
      obtain ⟨n, hk, e1⟩ := optI_nat hk
      obtain ⟨m, hk, e2⟩ := optI_nat hk
      obtain ⟨hb, hk⟩ := chk_some hk
      obtain ⟨hb2, hk⟩ := chk_some hk
      exact ⟨_, hk, fun k => by rw [if_neg hc]; simp only [e1, e2, hb, hb2, chk, cond_true]⟩
  case makeFunc f first cap =>
    cases f <;> simp only at hk ⊢ <;> first | (exact ⟨_, hk, fun k => rfl⟩) | cases hk
  case extract t i =>
    split at hk <;> try (first | cases hk)
    split at hk <;> try (first | cases hk)
    exact ⟨_, hk, fun k => by simp [*]⟩
  case build t parts =>
    split at hk <;> try (first | cases hk)
    all_goals
      rename_i hd
      split at hk <;> try (first | cases hk)
      rename_i hc
      split at hk <;> try (first | cases hk)
      rename_i hf
      exact ⟨_, hk, fun k => by rw [if_neg hc]⟩
  case call c =>
    split at hk <;> try (first | cases hk)
    · split at hk <;> try (first | cases hk)
      split at hk <;> try (first | cases hk)
      all_goals exact ⟨_, hk, fun k => by simp [*]⟩
    · split at hk <;> try (first | cases hk)
      split at hk <;> try (first | cases hk)
      exact ⟨_, hk, fun k => by simp [*]⟩
    · split at hk <;> try (first | cases hk)
      split at hk <;> try (first | cases hk)
      exact ⟨_, hk, fun k => by simp [*]⟩

def AObj.rd : AObj → AObj
  | .tok | .dead => .free
  | ob => ob
theorem rd_eq {a b : AObj} (h : a.rd = b.rd) : a = b ∨ ((a = .tok ∨ a = .dead ∨ a = .free) ∧ (b = .tok ∨ b = .dead ∨ b = .free)) := by
  cases a <;> cases b <;> simp [AObj.rd] at h ⊢ <;> exact h
theorem rd_cells {a b : AObj} (h : a.rd = b.rd) {cs : List V} (hb : b = .cells cs) : a = .cells cs := by
  rcases rd_eq h with h | ⟨_, h⟩
  · rw [h, hb]
  · rw [hb] at h; simp at h
theorem rd_bld {a b : AObj} (h : a.rd = b.rd) {v : V} (hb : b = .bld v) : a = .bld v := by
  rcases rd_eq h with h | ⟨_, h⟩
  · rw [h, hb]
  · rw [hb] at h; simp at h
theorem rd_row {a b : AObj} (h : a.rd = b.rd) {T : Ty} {l : List T.den} (hb : b = .row T l) : a = .row T l := by
  rcases rd_eq h with h | ⟨_, h⟩
  · rw [h, hb]
  · rw [hb] at h; simp at h

theorem rd_amap {a b : AObj} (h : a.rd = b.rd) {K T : Ty} {l : List (K.den × T.den)} (hb : b = .amap K T l) : a = .amap K T l := by
  rcases rd_eq h with h | ⟨_, h⟩
  · rw [h, hb]
  · rw [hb] at h; simp at h

theorem opR_nat {o : Op} {ρ : Operand → V} {lim : Option Nat} {k0 : V → Option R} {r : R} (hk : opR tt o ρ h lim k0 = some r) :
    ∃ v, k0 v = some r ∧ ∀ (h2 : Heap), (∀ i, limOk lim i = true → (h2.at i).rd = (h.at i).rd) → ∀ k : V → Option R, opR tt o ρ h2 lim k = k v := by
  cases o <;> simp only [opR] at hk ⊢ <;> try (first | cases hk)
  case load t x =>
    split at hk <;> try (first | cases hk)
    · split at hk <;> try (first | cases hk)
      rename_i hl
      split at hk <;> try (first | cases hk)
      all_goals rename_i hc
      · obtain ⟨v, h1, h2⟩ := partK_nat hk
        exact ⟨v, h1, fun hh e k => by have e' := rd_cells (e _ hl) hc; clear e; simp only [*, if_true]⟩
      · obtain ⟨v, h1, h2⟩ := partK_nat hk
        exact ⟨v, h1, fun hh e k => by have e' := rd_bld (e _ hl) hc; clear e; simp only [*, if_true]⟩
    · obtain ⟨v, h1, h2⟩ := partK_nat hk
      exact ⟨v, h1, fun hh e k => by simp only [*]⟩
    · split at hk <;> try (first | cases hk)
      rename_i hl
      split at hk <;> try (first | cases hk)
      rename_i T l hc
      split at hk <;> try (first | cases hk)
      rename_i hs
      obtain ⟨hb, hk⟩ := chk_some hk
      obtain ⟨v, h1, h2⟩ := partK_nat hk
      exact ⟨v, h1, fun hh e k => by have e' := rd_row (e _ hl) hc; clear e; simp only [*, if_true, chk, cond_true]⟩
  case lookup t x ix ok =>
    split at hk <;> try (first | cases hk)
    rename_i kt vt i h1 h2
    split at hk <;> try (first | cases hk)
    rename_i hl
    split at hk <;> try (first | cases hk)
    rename_i K T l hc
    split at hk <;> try (first | cases hk)
    rename_i hf
    split at hk <;> try (first | cases hk)
    rename_i kx hx
    refine ⟨bif ok then .tuple [elV T (mapGet K T kx l), .bool (mapHas K T kx l)] else elV T (mapGet K T kx l), by cases ok <;> exact hk, fun hh e k => ?_⟩
    have e' := rd_amap (e _ hl) hc
    clear e
    simp only [h1, h2, hl, e', hf, hx, if_true]
    cases ok <;> rfl
  case convert s d x =>
    split at hk <;> try (first | cases hk)
    · rename_i e i n h1 h2 h3
      split at hk <;> try (first | cases hk)
      rename_i hl
      split at hk <;> try (first | cases hk)
      rename_i h4 h5
      exact ⟨_, hk, fun hh e k => by have e' := rd_row (e _ hl) h5; clear e; simp only [*, if_true]⟩
    · rename_i h1 h2 h3
      split at hk <;> try (first | cases hk)
      · rename_i h4
        exact ⟨_, hk, fun hh e k => by simp only [*]⟩
      · rename_i h4
        obtain ⟨hb, hk⟩ := chk_some hk
        exact ⟨_, hk, fun hh e k => by simp only [*, chk, cond_true]⟩
    · rename_i h1 h2 h3
      split at hk <;> try (first | cases hk)
      rename_i h4
      exact ⟨_, hk, fun hh e k => by simp only [*]⟩

theorem opA_nat {o : Op} {ρ : Operand → V} {k0 : AObj → (Nat → V) → Option R} {r : R} (hk : opA tt o ρ k0 = some r) :
    ∃ ob mk, k0 ob mk = some r ∧ ∀ k : AObj → (Nat → V) → Option R, opA tt o ρ k = k ob mk := by
  cases o <;> simp only [opA] at hk ⊢ <;> try (first | cases hk)
  case alloc t =>
    split at hk
    · exact ⟨_, _, hk, fun k => by simp [*]⟩
    · split at hk <;> try (first | cases hk)
      exact ⟨_, _, hk, fun k => by simp [*]⟩
  case box t x =>
    split at hk <;> try (first | cases hk)
    split at hk <;> try (first | cases hk)
    exact ⟨_, _, hk, fun k => by simp only [*, if_true]⟩
  case buildSlice t len parts =>
    split at hk <;> try (first | cases hk)
    split at hk <;> try (first | cases hk)
    rename_i hc
    split at hk <;> try (first | cases hk)
    · rename_i h1 h2
      split at hk <;> try (first | cases hk)
      rename_i h3
      split at hk
      · exact ⟨_, _, hk, fun k => by simp only [*, if_true, if_false]; rfl⟩
      split at hk
      · split at hk <;> try (first | cases hk)
        exact ⟨_, _, hk, fun k => by simp only [*, if_true, if_false]; rfl⟩
      split at hk
      · exact ⟨_, _, hk, fun k => by simp only [*, if_true, if_false]; rfl⟩
      · exact ⟨_, _, hk, fun k => by simp only [*, if_true, if_false]; rfl⟩
    · exact ⟨_, _, hk, fun k => by simp only [*, if_true, if_false]; rfl⟩
  case makeSlice t n c =>
    split at hk <;> try (first | cases hk)
    split at hk <;> try (first | cases hk)
    split at hk <;> try (first | cases hk)
    split at hk <;> try (first | cases hk)
    rename_i h3
    obtain ⟨hb, hk⟩ := chk_some hk
    exact ⟨_, _, hk, fun k => by simp only [*, if_true, chk, cond_true]⟩
  case convert s d x =>
    split at hk <;> try (first | cases hk)
    split at hk <;> try (first | cases hk)
    exact ⟨_, _, hk, fun k => by simp [*]⟩
  case range t x =>
    split at hk <;> try (first | cases hk)
    exact ⟨_, _, hk, fun k => by simp [*]⟩
  case makeMap t rsv =>
    split at hk <;> try (first | cases hk)
    rename_i h1
    split at hk <;> try (first | cases hk)
    rename_i kt vt h2
    split at hk <;> try (first | cases hk)
    rename_i K V' h3 h4
    split at hk <;> try (first | cases hk)
    rename_i h5
    exact ⟨_, _, hk, fun k => by simp only [h1, h2, h3, h4, h5, if_true]⟩

theorem mapF {β : Type} {ρ ρ' : Operand → V} (f : Nat → V → β) (ps : List (Nat × Operand)) (h : ∀ x ∈ ps.map (·.2), ρ x = ρ' x) :
    (ps.map fun (i, x) => f i (ρ x)) = (ps.map fun (i, x) => f i (ρ' x)) :=
  List.map_congr_left fun p hm => by
    obtain ⟨i, x⟩ := p
    simp only [h x (List.mem_map.2 ⟨(i, x), hm, rfl⟩)]

theorem opP_congr {o : Op} {ρ ρ' : Operand → V} (h : ∀ x ∈ o.operands, ρ x = ρ' x) {k : V → Option R} : opP tt o ρ k = opP tt o ρ' k := by
  cases o <;> simp only [Op.operands] at h <;> simp only [opP]
  case build t ps =>
    have hp : ∀ x ∈ ps.toList.map (·.2), ρ x = ρ' x := fun x hx => h x (by simpa using hx)
    split
    · rename_i fs hd
      rw [mapF (fun i v => ((fs.getD i (0, 0)).1, if i < fs.length then (tt.at (fs.getD i (0, 0)).2).size else 1000000, v)) ps.toList hp]
    · rename_i e hd
      rw [mapF (fun i v => (i * (tt.at e).size, (tt.at e).size, v)) ps.toList hp]
    · rfl
  case makeFunc f first cap =>
    cases f <;> simp only
    rw [List.map_congr_left (l := first.toList) (g := ρ') fun x hx => h x (by simp at hx ⊢; exact .inl hx), List.map_congr_left (l := cap.toList) (g := ρ') fun x hx => h x (by simp at hx ⊢; exact .inr hx)]
  case slice t x lo hi mx => cases lo <;> cases hi <;> cases mx <;> simp_all
  case call c =>
    obtain ⟨callee, args, argTypes⟩ := c
    have ha : ∀ x ∈ args.toList, ρ x = ρ' x := fun x hx => h x (by simp [Call.operands] at hx ⊢; exact .inr hx)
    simp only
    split
    · rename_i x e; rw [ha x (by rw [e]; simp)]
    · rename_i x y e; rw [ha x (by rw [e]; simp), ha y (by rw [e]; simp)]
    · rename_i x y e; rw [ha x (by rw [e]; simp), ha y (by rw [e]; simp)]
    · rfl
  all_goals (first | rfl | (simp_all; done))

theorem opR_congr {o : Op} {ρ ρ' : Operand → V} (h' : ∀ x ∈ o.operands, ρ x = ρ' x) {lim : Option Nat} {k : V → Option R} : opR tt o ρ h lim k = opR tt o ρ' h lim k := by
  cases o <;> simp only [Op.operands] at h' <;> simp only [opR]
  all_goals (first | rfl | (simp_all; done))

theorem opA_congr {o : Op} {ρ ρ' : Operand → V} (h' : ∀ x ∈ o.operands, ρ x = ρ' x) {k : AObj → (Nat → V) → Option R} : opA tt o ρ k = opA tt o ρ' k := by
  cases o <;> simp only [Op.operands] at h' <;> simp only [opA]
  case makeMap t rsv =>
    have e : reserveOk ρ rsv = reserveOk ρ' rsv := by
      cases rsv with
      | none => rfl
      | some x => simp only [reserveOk]; rw [h' x (by simp)]
    rw [e]
  case buildSlice t len ps =>
    have hp : ∀ x ∈ ps.toList.map (·.2), ρ x = ρ' x := fun x hx => h' x (by simpa using hx)
    split
    · rename_i e hd
      rw [mapF (fun i v => (i * (tt.at e).size, (tt.at e).size, v)) ps.toList hp]
    · rfl
  all_goals (first | rfl | (simp_all; done))

theorem opW_congr {o : Op} {ρ ρ' : Operand → V} (h' : ∀ x ∈ o.operands, ρ x = ρ' x) {id : Nat} {k : V → Heap → Option R} : opW tt o ρ h id k = opW tt o ρ' h id k := by
  cases o <;> simp only [Op.operands] at h' <;> simp only [opW]
  case call c =>
    obtain ⟨callee, args, argTypes⟩ := c
    have ha : ∀ x ∈ args.toList, ρ x = ρ' x := fun x hx => h' x (by simp [Call.operands] at hx ⊢; exact .inr hx)
    simp only
    split
    · rename_i x y t xt e et; rw [ha x (by rw [e]; simp), ha y (by rw [e]; simp)]
    · rfl
  case slice t x lo hi mx => cases lo <;> cases hi <;> cases mx <;> simp_all
  all_goals (first | rfl | (simp_all; done))
end

section
variable {P : Program} {tt : TTab} {w w' : World} {h h' : Heap} {c c' : Cfg} {R : Type}

theorem killRows_ext : ∀ (l : List Nat) (h : Heap), Ext w h c w (killRows h l) c
  | [], h => .refl _ _ _
  | i :: l, h => by
    simp only [killRows]
    split
    · exact (kill_ext i).trans (killRows_ext l _)
    · exact killRows_ext l h

theorem killRows_wf : ∀ (l : List Nat) (h : Heap), WF w h c → WF w (killRows h l) c
  | [], h, wf => wf
  | i :: l, h, wf => by
    simp only [killRows]
    split
    · exact killRows_wf l _ (kill_wf wf i)
    · exact killRows_wf l h wf

theorem killRows_at : ∀ (l : List Nat) (h : Heap) (j : Nat), Heap.at (killRows h l) j = h.at j ∨ Heap.at (killRows h l) j = .dead
  | [], h, j => .inl rfl
  | i :: l, h, j => by
    simp only [killRows]
    split
    · rcases killRows_at l (h.set i .dead) j with e | e
      · rw [e, at_set]
        split
        · exact .inr rfl
        · exact .inl rfl
      · exact .inr e
    · exact killRows_at l h j

theorem killRows_in : ∀ (l : List Nat) (h : Heap) (j : Nat) {T : Ty} {m : List T.den}, j ∈ l → h.at j = .row T m → Heap.at (killRows h l) j = .dead
  | [], _, _, _, _, hj, _ => by cases hj
  | i :: l, h, j, T, m, hj, he => by
    simp only [killRows]
    by_cases hij : i = j
    · subst hij
      split
      · rcases killRows_at l (h.set i .dead) i with e | e
        · rw [e]; exact at_set_eq _ (Heap.at_live he (by simp))
        · exact e
      · rename_i hn; exact (hn T m he).elim
    · have hj' : j ∈ l := by
        rcases List.mem_cons.1 hj with rfl | h
        · exact (hij rfl).elim
        · exact h
      split
      · exact killRows_in l _ j hj' (by rw [at_set_ne _ hij]; exact he)
      · exact killRows_in l h j hj' he

theorem shutL_eq (h : Heap) : ∀ l : List V, V.shutL h l = l.map (V.shut h)
  | [] => rfl
  | v :: l => by simp only [V.shutL, List.map_cons, shutL_eq h l]

theorem Owns.dead {ids : List Nat} {b x : Nat} (ho : Owns (killRows h ids) c b x) : Owns h c b x := by
  obtain ⟨i, f, g1, g2, g3⟩ := ho
  rcases killRows_at ids h i with e | e
  · exact ⟨i, f, g1, e ▸ g2, g3⟩
  · rw [e] at g2; cases g2

theorem shut_rep (wf : WF w h c) {ids : List Nat} {v : V} {d : Value} (r : Rep w h c v d) : (∀ i ∈ v.ids, i ∈ ids) → Rep w (killRows h ids) c (v.shut h) d := by
  have x := killRows_ext (w := w) (c := c) ids h
  induction r with
  | sl f hcap hmx hc hr hnil hown => exact fun _ => (Rep.sl (t := .no) f hcap hmx hc hr (by simp) (by simp)).mono x
  | @row i n v hi hn hv =>
    intro hids
    simp only [V.shut]
    split
    · rename_i T l he
      obtain ⟨A, cap, rfl, hA, hv⟩ := hv
      obtain ⟨hnl, hle, hmx, hor⟩ := hv T l he
      obtain ⟨ds, rds, hcell⟩ := row_all wf he
      subst hnl
      refine sl_of_cells (rds.mono x) hle hmx (fun hl => ?_) (by simp) (by simp)
      obtain ⟨b, hb, hcs⟩ := hcell hl
      rcases hor with ⟨h1, _⟩ | ⟨b', arr, e, fz, h1, h2, h3, h4⟩
      · rw [hb] at h1; cases h1
      · rw [hb] at h1; cases h1
        refine ⟨b, c.off i, h2, hcs, fun y hy1 hy2 => ?_⟩
        have hown : Owns h c b y := ⟨i, 0, hb, by rw [he]; rfl, Nat.zero_le _⟩
        refine ⟨fun ho => ?_, wf.disj b y hown⟩
        obtain ⟨j, f, g1, g2, g3⟩ := ho
        have hdead := killRows_in ids h i (hids i (by simp [V.ids])) he
        rcases killRows_at ids h j with e' | e'
        · have hlj : (h.at j).live := by rw [e'] at g2; exact from_live g2
          have := wf.inj i j b (by rw [he]; trivial) hlj hb g1
          subst this
          rw [hdead] at g2
          cases g2
        · rw [e'] at g2; cases g2
    · exact .undef _
  | @agg cs y hl _ ih =>
    intro hids
    simp only [V.shut, shutL_eq]
    refine .agg (by simpa using hl) fun j v d hv hd => ?_
    rw [List.getElem?_map] at hv
    cases e : cs[j]? with
    | none => rw [e] at hv; cases hv
    | some u =>
      rw [e] at hv; simp at hv; subst hv
      exact ih j u d e hd fun i hi => hids i (by simp only [V.ids]; exact idsL_mem.2 ⟨j, u, e, hi⟩)
  | @tuple cs y hl _ ih =>
    intro hids
    simp only [V.shut, shutL_eq]
    refine .tuple (by simpa using hl) fun j v d hv hd => ?_
    rw [List.getElem?_map] at hv
    cases e : cs[j]? with
    | none => rw [e] at hv; cases hv
    | some u =>
      rw [e] at hv; simp at hv; subst hv
      exact ih j u d e hd fun i hi => hids i (by simp only [V.ids]; exact idsL_mem.2 ⟨j, u, e, hi⟩)
  | undef v => exact fun _ => .undef _
  | int hn => exact fun _ => .int hn
  | bool b => exact fun _ => .bool b
  | str hl => exact fun _ => .str hl
  | nilptr => exact fun _ => .nilptr
  | nilsl => exact fun _ => .nilsl
  | nilfunc => exact fun _ => .nilfunc
  | nilmap => exact fun _ => .nilmap
  | niliface => exact fun _ => .niliface
  | iface t v => exact fun _ => .iface t v
  | ifi hn => exact fun _ => .ifi hn
  | rview hi hn hv => exact fun _ => (Rep.rview hi hn hv).mono x
  | anyb b => exact fun _ => .anyb b
  | ptr hi hv => exact fun _ => (Rep.ptr hi hv).mono x
  | map hi hv => exact fun _ => (Rep.map hi hv).mono x
  | rptr hi hv => exact fun _ => (Rep.rptr hi hv).mono x
  | iptr f hc hr _ => exact fun _ => (Rep.iptr f hc hr).mono x
  | vsl hn hmx f hc hr _ => exact fun _ => (Rep.vsl hn hmx f hc hr).mono x
  | func ha hb hra hrb _ _ => exact fun _ => (Rep.func ha hb hra hrb).mono x

theorem shutL_rep (wf : WF w h c) {vs : List V} {ds : List Value} (r : RepL w h c vs ds) : RepL w (killRows h (V.idsL vs)) c (V.shutL h vs) ds := by
  rw [shutL_eq]
  refine ⟨by simpa using r.1, fun j v d hv hd => ?_⟩
  rw [List.getElem?_map] at hv
  cases e : vs[j]? with
  | none => rw [e] at hv; cases hv
  | some u =>
    rw [e] at hv; simp at hv; subst hv
    exact shut_rep wf (r.2 j u d e hd) fun i hi => idsL_mem.2 ⟨j, u, e, hi⟩

theorem canon_rep {t : Nat} {v : V} {d : Value} (r : Rep w h c v d) : Rep w h c (canon tt t v) d := by
  unfold canon
  split
  · rename_i T hT
    split
    · rename_i cs
      split
      · rename_i x hx
        split
        · cases r with
          | @agg _ y hl hr =>
            have rl : RepL w h c cs y.toList := ⟨by simpa using hl, fun j v d hv hd => hr j v d hv (by simpa using hd)⟩
            have := dec_rep hx rl
            exact .agg (by simpa using this.1) fun j v d hv hd => this.2 j v d hv (by simpa using hd)
        · exact r
      · exact r
    · split
      · rename_i x hx
        split
        · exact r
        · have := dec_rep hx (RepL.cons r RepL.nil)
          split
          · rename_i e he
            rw [he] at this
            exact this.head
          · exact r
      · exact r
  · split
    · split
      · split
        · rename_i l hl; exact asSl_sound r hl
        · exact r
      · exact r
    · exact r

theorem canonA_rep : ∀ (ts : List Nat) {vs : List V} {ds : List Value}, RepL w h c vs ds → RepL w h c (canonA tt ts vs) ds
  | [], vs, ds, r => by simpa [canonA] using r
  | t :: ts, [], ds, r => by simpa [canonA] using r
  | t :: ts, v :: vs, [], r => by have := r.1; simp at this
  | t :: ts, v :: vs, d :: ds, r => .cons (canon_rep r.head) (canonA_rep ts r.tail)

theorem scal1_rep {v : V} {d : Value} (hs : v.scal1 = true) (r : Rep w h c v d) : Rep w' h' c' v d := by
  cases r <;> simp only [V.scal1] at hs <;> try (first | cases hs)
  case int hn => exact .int hn
  case bool b => exact .bool b
  case str hl => exact .str hl
  case nilptr => exact .nilptr
  case nilsl => exact .nilsl
  case nilfunc => exact .nilfunc
  case nilmap => exact .nilmap
  case niliface => exact .niliface
  case iface t v => exact .iface t v
  case ifi hn => exact .ifi hn

theorem scal_rep {v : V} {d : Value} (hs : v.scal = true) (r : Rep w h c v d) : Rep w' h' c' v d := by
  cases r
  case agg hl hr =>
    simp only [V.scal, List.all_eq_true] at hs
    exact .agg hl fun j v d hv hd => scal1_rep (hs v (List.mem_of_getElem? hv)) (hr j v d hv hd)
  case tuple hl hr =>
    simp only [V.scal, List.all_eq_true] at hs
    exact .tuple hl fun j v d hv hd => scal1_rep (hs v (List.mem_of_getElem? hv)) (hr j v d hv hd)
  all_goals first
    | exact scal1_rep (w := w) (h := h) (c := c) hs (by constructor <;> assumption)
    | (simp only [V.scal, V.scal1] at hs; cases hs)

theorem still_ext {c1 c2 : Cfg} (wf : WF w h c) (x : Ext w [] c1 w' h' c2) : Ext w h c w' h c ∧ WF w' h c := by
  have nown : ∀ b y, ¬ Owns ([] : Heap) c1 b y := fun b y ho => by
    obtain ⟨i, f, _, g2, _⟩ := ho
    simp [Heap.at, AObj.from_] at g2
  have hx : Ext w h c w' h c := {
    os := x.os
    tape := x.tape
    output := x.output
    size := x.size
    used := fun _ hi => hi
    same := fun i hi hd => ⟨by have h2 := hi.2; revert hd h2; cases h.at i <;> simp [AObj.sim], rfl, rfl⟩
    cell := fun b y hb _ => x.cell b y hb (nown b y)
    block := fun b hb _ => x.block b hb (nown b)
    owns := fun _ _ _ ho => ho
    ext := rfl
    arr := x.arr }
  refine ⟨hx, ?_, fun b y hb => Nat.lt_of_lt_of_le (wf.extlt b y hb) x.size, fun i hi => ?_, wf.inj, wf.lay_ext hx⟩
  · exact wf.disj
  · by_cases hl : (h.at i).live
    · exact (wf.obj i hi).keep hx (fun b hb => x.block b ((wf.obj i hi).lt hl hb) (nown b)) rfl rfl
    · have h0 : h.at i = .free ∨ h.at i = .dead := by revert hl; cases h.at i <;> simp [AObj.live]
      rcases h0 with h0 | h0 <;> rw [h0] <;> trivial
end

section
variable {P : Program} {tt : TTab} {w w' : World} {h h' : Heap} {c c' : Cfg} {R : Type}

def CallsTo (P : Program) (g : Nat) (args : Array Value) (w : World) (Q : Value → World → Prop) : Prop :=
  ∃ nx w1, (callFunc g args).run P w = .ok nx w1 ∧
    match nx with
    | .value d => Q d w1
    | .enter f xs => Calls P f xs w1 fun e w' => ∃ d, e = .returned d ∧ Q d w'
    | .row row xs => Rows P row xs w1 Q
    | _ => False

theorem CallsTo.mono {g : Nat} {args : Array Value} {Q Q' : Value → World → Prop} (h : CallsTo P g args w Q) (hq : ∀ d w', Q d w' → Q' d w') : CallsTo P g args w Q' := by
  obtain ⟨nx, w1, h1, h2⟩ := h
  refine ⟨nx, w1, h1, ?_⟩
  cases nx <;> simp only at h2 ⊢
  · exact hq _ _ h2
  · exact Calls.mono h2 fun e w' ⟨d, e1, q⟩ => ⟨d, e1, hq _ _ q⟩
  · exact Rows.mono h2 fun d w' q => hq _ _ q

def Spec.Ok (P : Program) (g : Nat) (sp : Spec R) : Prop :=
  ∀ vs h k r, sp vs h k = some r → ∀ (w : World) (c : Cfg) (args : Array Value), WF w h c → RepL w h c vs args.toList →
    CallsTo P g args w fun d w' => ∃ v h' c', WF w' h' c' ∧ Ext w h c w' h' c' ∧ Rep w' h' c' v d ∧ k v h' = some r

def Spec.OkAt (P : Program) (g m : Nat) (sp : Spec R) : Prop :=
  ∀ vs h k r, h.length = m → sp vs h k = some r → ∀ (w : World) (c : Cfg) (args : Array Value), WF w h c → RepL w h c vs args.toList →
    CallsTo P g args w fun d w' => ∃ v h' c', WF w' h' c' ∧ Ext w h c w' h' c' ∧ Rep w' h' c' v d ∧ k v h' = some r

def SoftSpec (sp : Spec R) : Prop := ∀ vs h k k', (∀ v, k v h = k' v h) → sp vs h k = sp vs h k'

def EOk (P : Program) (E : Env R) : Prop := ∀ g b sp, E g = some (b, sp) → Spec.Ok P g sp ∧ (b = false → lay0.soft g = true → SoftSpec sp)

theorem SoftSpec.same {sp : Spec R} (hs : SoftSpec sp) {vs : List V} {k : V → Heap → Option R} {r : R} (hk : sp vs h k = some r) : ∃ k', sp vs h k' = some r ∧ ∀ v h', k' v h' = some r → h' = h ∧ k v h = some r := by
  classical
  refine ⟨fun v h' => if h' = h then k v h else none, ?_, fun v h' e => ?_⟩
  · rw [← hk]
    exact hs _ _ _ _ fun v => by simp
  · simp only at e
    split at e
    · exact ⟨‹_›, e⟩
    · cases e

theorem Spec.OkAt.of_body {g m : Nat} {sp : Spec R} {fn : Func} (hf : P.funcs[g]? = some fn) (hn : (fn.name == "runtime.NumGoroutine") = false) (hb : fn.body.isNone = false)
    (hs : ∀ vs h k r, h.length = m → sp vs h k = some r → ∀ (w : World) (c : Cfg) (args : Array Value), WF w h c → RepL w h c vs args.toList →
      Calls P g args w fun e w' => ∃ d, e = .returned d ∧ ∃ v h' c', WF w' h' c' ∧ Ext w h c w' h' c' ∧ Rep w' h' c' v d ∧ k v h' = some r) : Spec.OkAt P g m sp := by
  intro vs h k r hml hk w c args wf ra
  refine ⟨.enter g args, w, ?_, hs vs h k r hml hk w c args wf ra⟩
  have hn' : fn.name ≠ "runtime.NumGoroutine" := by simpa using hn
  have hb' : fn.body ≠ none := fun e => by rw [e] at hb; cases hb
  simp [callFunc, hf, hn', hb']

theorem none_ids : ∀ {v : V}, v.ids = [] → ∀ ρ, v.ren ρ = v := by
  have key : (∀ v : V, v.ids = [] → ∀ ρ, v.ren ρ = v) ∧ ∀ l : List V, V.idsL l = [] → ∀ ρ, V.renL ρ l = l := by
    refine ⟨fun v => ?_, fun l => ?_⟩
    · refine V.rec (motive_1 := fun v => v.ids = [] → ∀ ρ, v.ren ρ = v) (motive_2 := fun l => V.idsL l = [] → ∀ ρ, V.renL ρ l = l) ?_ ?_ ?_ ?_ ?_ ?_ ?_ ?_ ?_ ?_ ?_ ?_ ?_ ?_ ?_ ?_ ?_ ?_ ?_ ?_ ?_ ?_ ?_ ?_ ?_ v <;> first
        | (intros; rfl)
        | (intros; simp_all [V.ids, V.idsL, V.ren, V.renL]; done)
        | skip
      · intro T l t ht ρ
        cases t <;> simp_all [V.ids, V.ren, Tok.ren]
    · refine V.rec_1 (motive_1 := fun v => v.ids = [] → ∀ ρ, v.ren ρ = v) (motive_2 := fun l => V.idsL l = [] → ∀ ρ, V.renL ρ l = l) ?_ ?_ ?_ ?_ ?_ ?_ ?_ ?_ ?_ ?_ ?_ ?_ ?_ ?_ ?_ ?_ ?_ ?_ ?_ ?_ ?_ ?_ ?_ ?_ ?_ l <;> first
        | (intros; rfl)
        | (intros; simp_all [V.ids, V.idsL, V.ren, V.renL]; done)
        | skip
      · intro T l t ht ρ
        cases t <;> simp_all [V.ids, V.ren, Tok.ren]
  exact fun {v} hv ρ => key.1 v hv ρ

theorem back_nil (h : Heap) : h.back [] [] = h := by simp [Heap.back, Heap.putAll]

def Keeps (al : Bool) (id : Nat) (h h' : Heap) : Prop := h.length ≤ h'.length ∧ ∀ j, (al = true → j ≠ id) → j < h.length → h.at j = .free → h'.at j = .free

theorem back_keeps {ord : List Nat} (hnd : ord.Nodup) (hu : ∀ i ∈ ord, Used h i) (hle : ord.length ≤ h'.length) : Keeps false 0 h (h.back ord h') := by
  refine ⟨by simp [Heap.back, putAll_length], fun j _ hj hf => ?_⟩
  have hn : j ∉ ord := fun hm => (hu j hm).2 hf
  rcases back_at (c := ⟨fun _ => none, fun _ => 0, ⟨fun _ _ => False⟩⟩) (c' := ⟨fun _ => none, fun _ => 0, ⟨fun _ _ => False⟩⟩) hnd (fun i hi => (hu i hi).1) hle j with ⟨i, h1, h2, _⟩ | ⟨_, _, h3, _⟩ | ⟨h1, _⟩
  · unfold backId at h1
    split at h1
    · rename_i hi
      simp only [List.getD, List.getElem?_eq_getElem hi, Option.getD_some] at h1
      exact (hn (h1 ▸ List.getElem_mem hi)).elim
    · omega
  · rw [h3]; exact hf
  · simp [Heap.back, putAll_length] at h1; omega

theorem ev_rep {st : List V} {a : Act} (r : RepL w h c st a.tmps.toList) (x : Operand) : Rep w h c (ev st x) (a.eval x) := by
  cases x with
  | tmp t =>
    have := r.getD t undef
    simpa [ev, Act.eval, List.getD, Array.getD_eq_getD_getElem?] using this
  | const v => exact ofConst_rep v
  | global g => exact .undef _
  | func f => exact .func rfl rfl (by simp) (by simp)

theorem dropTok1_rep {v : V} {d : Value} (r : Rep w h c v d) : Rep w h c (dropTok1 v) d := by
  cases r with
  | sl f hcap hmx hc hr hnil hown => exact .sl f hcap hmx hc hr (by simp) (by simp)
  | _ => simp only [dropTok1]; constructor <;> assumption

theorem dropTok_rep {v : V} {d : Value} (r : Rep w h c v d) : Rep w h c (dropTok v) d := by
  cases r with
  | sl f hcap hmx hc hr hnil hown => exact .sl f hcap hmx hc hr (by simp) (by simp)
  | @agg cs x hl hr =>
    refine .agg (by simpa using hl) fun j v d hv hd => ?_
    rw [List.getElem?_map] at hv
    cases e : cs[j]? with
    | none => rw [e] at hv; cases hv
    | some u => rw [e] at hv; simp at hv; subst hv; exact dropTok1_rep (hr j u d e hd)
  | _ => simp only [dropTok]; constructor <;> assumption

theorem dropTokL_rep {vs : List V} {ds : List Value} (r : RepL w h c vs ds) : RepL w h c (vs.map dropTok) ds := by
  refine ⟨by simpa using r.1, fun j v d hv hd => ?_⟩
  rw [List.getElem?_map] at hv
  cases e : vs[j]? with
  | none => rw [e] at hv; cases hv
  | some u => rw [e] at hv; simp at hv; subst hv; exact dropTok_rep (r.2 j u d e hd)

theorem renL_none {vs : List V} (h : V.idsL vs = []) (ρ : Nat → Option Nat) : V.renL ρ vs = vs := by
  have : ∀ v ∈ vs, v.ren ρ = v := fun v hv => by
    refine none_ids ?_ _
    cases hi : v.ids with
    | nil => rfl
    | cons i l =>
      obtain ⟨j, hj⟩ := List.mem_iff_getElem?.1 hv
      have : i ∈ V.idsL vs := idsL_mem.2 ⟨j, v, hj, by rw [hi]; simp⟩
      rw [h] at this; cases this
  rw [renL_eq]
  conv => rhs; rw [← List.map_id vs]
  exact List.map_congr_left this

theorem callK_sound {E : Env R} (hE : EOk P E) (wf : WF w h c) {o : Oper} {cl : Call} (ho : o.op = .call cl) {ρ : Operand → V} {ρ' : Operand → Value} (hρ : ∀ x, Rep w h c (ρ x) (ρ' x)) {full : Bool}
    {k : V → Heap → Option R} {r : R} (hk : callK tt E full cl ρ h k = some r) :
    ∃ g args, (execOp ρ' o).run P w = (callFunc g args).run P w ∧ CallsTo P g args w fun d w' =>
      ∃ v h' c', WF w' h' c' ∧ Ext w h c w' h' c' ∧ Rep w' h' c' v d ∧ k v h' = some r ∧ Keeps false 0 h h' ∧ (full = false → h' = h) := by
  obtain ⟨dst, op, type, pos, after, guard⟩ := o
  simp only at ho
  subst ho
  unfold callK at hk
  split at hk <;> try (first | cases hk)
  rename_i f hf
  split at hk <;> try (first | cases hk)
  rename_i g first cap hg
  have rf := hρ f
  rw [hg] at rf
  generalize hdf : ρ' f = df at rf
  cases rf with
  | @func _ _ _ x y ha hb hra hrb =>
    have rargs : RepL w h c (first ++ cl.args.toList.map ρ ++ cap) (x ++ cl.args.map ρ' ++ y).toList := by
      have e : (x ++ cl.args.map ρ' ++ y).toList = x.toList ++ cl.args.toList.map ρ' ++ y.toList := by simp
      rw [e]
      refine RepL.append (RepL.append ⟨by simpa using ha, fun j v d hv hd => hra j v d hv (by simpa using hd)⟩ (RepL.map _ fun z _ => hρ z)) ⟨by simpa using hb, fun j v d hv hd => hrb j v d hv (by simpa using hd)⟩
    have rplain : RepL w h c ((first ++ canonA tt cl.argTypes.toList (cl.args.toList.map ρ) ++ cap).map dropTok) (x ++ cl.args.map ρ' ++ y).toList := by
      have e : (x ++ cl.args.map ρ' ++ y).toList = x.toList ++ cl.args.toList.map ρ' ++ y.toList := by simp
      rw [e]
      refine dropTokL_rep (RepL.append (RepL.append ⟨by simpa using ha, fun j v d hv hd => hra j v d hv (by simpa using hd)⟩ (canonA_rep _ (RepL.map _ fun z _ => hρ z))) ⟨by simpa using hb, fun j v d hv hd => hrb j v d hv (by simpa using hd)⟩)
    simp only at hk
    refine ⟨g, x ++ cl.args.map ρ' ++ y, by simp [execOp, resolve, hf, hdf, Deferred.ofValue, invoke], ?_⟩
    generalize (first ++ canonA tt cl.argTypes.toList (cl.args.toList.map ρ) ++ cap).map dropTok = ps at *
    generalize first ++ cl.args.toList.map ρ ++ cap = vs at *
    split at hk <;> try (first | cases hk)
    · -- a plain one
      rename_i sp hsp
      split at hk
      · rename_i hids
        have ra := callee_rep (ord := []) rplain
        rw [renL_none hids] at ra
        refine CallsTo.mono ((hE g _ sp hsp).1 _ _ _ _ hk w _ _ (callee_wf (ord := []) wf List.nodup_nil) ra) fun d w' ⟨v, h', c', wf', x, rv, hk'⟩ => ?_
        obtain ⟨k1, k2, k3⟩ := call_back wf (ord := []) (by simp) (by simp) wf' x
        split at hk' <;> try (first | cases hk')
        refine ⟨v, h, c.back [] h.length c', ?_, ?_, ?_, hk', ⟨Nat.le_refl _, fun j _ _ hf => hf⟩, fun _ => rfl⟩
        · rw [back_nil] at k1; exact k1
        · rw [back_nil] at k2; exact k2
        · have := rv.ren k3
          rw [back_nil] at this
          rw [none_ids] at this
          · exact this
          · cases hi : v.ids with
            | nil => rfl
            | cons i l =>
              have := rv.ids_used i (by rw [hi]; simp)
              exact (Nat.not_lt_zero _ this.1).elim
      · cases full with
        | false => cases hk
        | true =>
          simp only [cond_true] at hk
          unfold lendK at hk
          split at hk <;> try (first | cases hk)
          rename_i hids
          have ra := callee_rep (ord := []) (shutL_rep wf rplain)
          rw [renL_none hids] at ra
          refine CallsTo.mono ((hE g _ sp hsp).1 _ _ _ _ hk w _ _ (callee_wf (ord := []) (killRows_wf _ _ wf) List.nodup_nil) ra) fun d w' ⟨v, h', c', wf', x, rv, hk'⟩ => ?_
          split at hk' <;> try (first | cases hk')
          cases hs : v.scal with
          | false => rw [hs] at hk'; cases hk'
          | true =>
            rw [hs] at hk'
            obtain ⟨hx, hw⟩ := still_ext wf x
            exact ⟨v, h, c, hw, hx, scal_rep hs rv, hk', ⟨Nat.le_refl _, fun j _ _ hf => hf⟩, fun _ => rfl⟩
    · rename_i sp hsp
      cases full with
      | false => cases hk
      | true =>
        simp only [cond_true] at hk
        cases hso : lay0.soft g with
        | true =>
          rw [hso] at hk
          simp only [cond_true] at hk
          obtain ⟨k', hk1, hk2⟩ := ((hE g _ sp hsp).2 rfl hso).same hk
          refine CallsTo.mono ((hE g _ sp hsp).1 _ _ _ _ hk1 w _ _ wf rargs) fun d w' ⟨v, h', c', wf', x, rv, hk'⟩ => ?_
          obtain ⟨rfl, hk3⟩ := hk2 _ _ hk'
          exact ⟨v, _, c', wf', x, rv, hk3, ⟨Nat.le_refl _, fun j _ _ hf => hf⟩, fun _ => rfl⟩
        | false =>
        rw [hso] at hk
        simp only [cond_false] at hk
        have hui := rargs.ids_used
        generalize V.idsL vs = ids at *
        have hu : ∀ i ∈ reach h 64 ids [], Used h i := reach_used wf _ _ _ hui (by simp)
        have hnd : (reach h 64 ids []).Nodup := reach_nodup h _ _ _ (by simp)
        refine CallsTo.mono ((hE g _ sp hsp).1 _ _ _ _ hk w _ _ (callee_wf wf hnd) (callee_rep rargs)) fun d w' ⟨v, h', c', wf', x, rv, hk'⟩ => ?_
        obtain ⟨k1, k2, k3⟩ := call_back wf hnd hu wf' x
        have hle : (reach h 64 ids []).length ≤ h'.length := by
          rcases Nat.eq_zero_or_pos (reach h 64 ids []).length with h0 | h0
          · omega
          · have := (x.used ((reach h 64 ids []).length - 1) ⟨by simp [Heap.pick]; omega, by
              rw [pick_at, List.getElem?_eq_getElem (by omega)]
              simp only [ne_eq, ren_free]
              exact (hu _ (List.getElem_mem _)).2⟩).1
            omega
        exact ⟨_, _, _, k1, k2, rv.ren k3, hk', back_keeps hnd hu hle, fun hd' => by cases hd'⟩
end

section
variable {tt : TTab} {h : Heap} {R : Type}

theorem srcOf_set {T : Ty} {x : V} {id ix : Nat} {ob : AObj} (hx : lowX id x = true) (hlt : id < ix) : srcOf T (h.set ix ob) x = srcOf T h x := by
  cases x <;> simp only [srcOf]
  case row i n =>
    simp only [lowX, decide_eq_true_eq] at hx
    rw [at_set_ne _ (by omega)]
  case rview i z q n =>
    simp only [lowX, decide_eq_true_eq] at hx
    rw [at_set_ne _ (by omega)]

theorem viewOk_set {x : V} {id ix : Nat} {ob : AObj} (hx : lowX id x = true) (hlt : id < ix) : viewOk (h.set ix ob) x = viewOk h x := by
  cases x <;> simp only [viewOk]
  case rview i z q n =>
    simp only [lowX, decide_eq_true_eq] at hx
    rw [at_set_ne _ (by omega)]

theorem appendK_set {e base id ix : Nat} {s x : V} {ob : AObj} {k : V → Heap → Option R} (hs : lowS base id s = true) (hx : lowX id x = true) (hlt : id < ix) :
    appendK tt e s x (h.set ix ob) id k = appendK tt e s x h id fun v h' => k v (h'.set ix ob) := by
  have hc : ∀ (h : Heap) (o1 : AObj), (h.set ix ob).set id o1 = (h.set id o1).set ix ob := fun h o1 => List.set_comm _ _ (by omega)
  unfold appendK
  rw [viewOk_set hx hlt]
  congr 1
  unfold appendK0
  cases (tt.at e).ty with
  | none => rfl
  | some T =>
    simp only [srcOf_set hx hlt]
    split
    · cases srcOf T h x with
      | none => rfl
      | some m =>
        cases s with
        | nilsl =>
          simp only [hc]
        | sl T' l tk =>
          simp only
          split
          · cases tk with
            | no => rfl
            | nil => simp only [hc]
            | own i =>
              simp only [lowS, decide_eq_true_eq] at hs
              simp only
              rw [at_set_ne _ (by omega)]
              have hci : ∀ o1 : AObj, (h.set ix ob).set i o1 = (h.set i o1).set ix ob := fun o1 => List.set_comm _ _ (by omega)
              simp only [hci, hc]
          · rfl
        | row i n =>
          simp only [lowS, Bool.and_eq_true, decide_eq_true_eq] at hs
          simp only
          rw [at_set_ne _ (by omega)]
          have hci : ∀ o1 : AObj, (h.set ix ob).set i o1 = (h.set i o1).set ix ob := fun o1 => List.set_comm _ _ (by omega)
          simp only [hci, hc]
        | _ => rfl
    · rfl

theorem appendK_mono {e base id : Nat} {s x : V} {k k' : V → Heap → Option R} (hb : base ≤ id) (hs : lowS base id s = true) (hk : ∀ v h', (∀ i, i < base → (h'.at i).rd = (h.at i).rd) → k v h' = k' v h') :
    appendK tt e s x h id k = appendK tt e s x h id k' := by
  have h1 : ∀ v o1, k v (h.set id o1) = k' v (h.set id o1) := fun v o1 => hk v _ fun i hi => by rw [at_set_ne _ (by omega)]
  unfold appendK
  congr 1
  unfold appendK0
  cases (tt.at e).ty with
  | none => rfl
  | some T =>
    simp only
    split
    · cases srcOf T h x with
      | none => rfl
      | some m =>
        cases s with
        | nilsl => simp only [h1]
        | sl T' l tk =>
          simp only
          split
          · cases tk with
            | no => rfl
            | nil => simp only [h1]
            | own i =>
              simp only [lowS, decide_eq_true_eq] at hs
              simp only
              have h2 : h.at i = .tok → ∀ v o1, k v ((h.set i .dead).set id o1) = k' v ((h.set i .dead).set id o1) := fun ht v o1 => hk v _ fun j hj => by
                rw [at_set_ne _ (by omega)]
                by_cases e : i = j
                · subst e
                  rw [ht, at_set]
                  split <;> simp [AObj.rd, ht]
                · rw [at_set_ne _ e]
              cases ht : h.at i <;> try rfl
              simp only [h2 ht]
          · rfl
        | row i n =>
          simp only [lowS, Bool.and_eq_true, decide_eq_true_eq] at hs
          have hbi := Nat.le_of_ble_eq_true hs.1
          have h2 : ∀ v o1, k v ((h.set i .dead).set id o1) = k' v ((h.set i .dead).set id o1) := fun v o1 => hk v _ fun j hj => by
            rw [at_set_ne _ (by omega), at_set_ne _ (by omega)]
          simp only [h2]
        | _ => rfl
    · rfl

theorem app_inv {o : Op} (ha : appOp o = true) : ∃ c, o = .call c ∧ c.callee = .builtin .append := by
  unfold appOp at ha
  split at ha <;> try (first | cases ha)
  rename_i c
  refine ⟨c, rfl, ?_⟩
  revert ha
  split
  · intro _; assumption
  · intro h; cases h

theorem app_cls {o : Op} (ha : appOp o = true) : opCls tt o = .W := by
  obtain ⟨c, rfl, hc⟩ := app_inv ha
  simp only [opCls, hc]

theorem lowApp_congr {base : Nat} {o : Op} {ρ ρ' : Operand → V} {id : Nat} (h' : ∀ x ∈ o.operands, ρ x = ρ' x) : lowApp base o ρ id = lowApp base o ρ' id := by
  unfold lowApp
  split
  · rename_i c
    have ha : ∀ x ∈ c.args.toList, ρ x = ρ' x := fun x hx => h' x (by simp [Op.operands, Call.operands] at hx ⊢; exact .inr hx)
    split
    · rename_i s x e
      rw [ha s (by rw [e]; simp), ha x (by rw [e]; simp)]
    · rfl
  · rfl

theorem lowD_congr {drawn : Option Nat} {o : Op} {ρ ρ' : Operand → V} {id : Nat} (h' : ∀ x ∈ o.operands, ρ x = ρ' x) : lowD drawn o ρ id = lowD drawn o ρ' id := by
  cases drawn with
  | none => rfl
  | some b => exact lowApp_congr h'

theorem opW_set {base : Nat} {o : Op} {ρ : Operand → V} {id ix : Nat} {ob : AObj} {k : V → Heap → Option R} (ha : appOp o = true) (hl : lowApp base o ρ id = true) (hlt : id < ix) :
    opW tt o ρ (h.set ix ob) id k = opW tt o ρ h id fun v h' => k v (h'.set ix ob) := by
  obtain ⟨⟨callee, args, argTypes⟩, rfl, hc⟩ := app_inv ha
  simp only at hc
  subst hc
  simp only [opW]
  split
  · rename_i s x t xt _ e et
    simp only [lowApp, e, Bool.and_eq_true] at hl
    simp only [appendK_set hl.1 hl.2 hlt]
  · rfl

theorem opW_mono {base : Nat} {o : Op} {ρ : Operand → V} {id : Nat} {k k' : V → Heap → Option R} (ha : appOp o = true) (hb : base ≤ id) (hl : lowApp base o ρ id = true) (hk : ∀ v h', (∀ i, i < base → (h'.at i).rd = (h.at i).rd) → k v h' = k' v h') :
    opW tt o ρ h id k = opW tt o ρ h id k' := by
  obtain ⟨⟨callee, args, argTypes⟩, rfl, hc⟩ := app_inv ha
  simp only at hc
  subst hc
  simp only [opW]
  split
  · rename_i s x t xt _ e et
    simp only [lowApp, e, Bool.and_eq_true] at hl
    simp only [appendK_mono hb hl.1 hk]
  · rfl
end

section
variable {P : Program} {tt : TTab} {w w' : World} {h h' : Heap} {c c' : Cfg} {R : Type}

structure Sim (w : World) (c : Cfg) (st : St) (a : Act) : Prop where
  wf : WF w st.hp c
  fr : RepL w st.hp c st.fr a.tmps.toList

theorem Keeps.refl (al : Bool) (id : Nat) (h : Heap) : Keeps al id h h := ⟨Nat.le_refl _, fun _ _ _ hf => hf⟩
theorem Keeps.set {id : Nat} (ob : AObj) : Keeps true id h (h.set id ob) := ⟨by simp, fun j hj _ hf => by rw [at_set_ne _ (Ne.symm (hj rfl))]; exact hf⟩
theorem Keeps.weak {al : Bool} {id : Nat} (k : Keeps false 0 h h') : Keeps al id h h' := ⟨k.1, fun j _ hj hf => k.2 j (by simp) hj hf⟩

theorem opW_nat {o : Op} {ρ : Operand → V} {id : Nat} {k0 : V → Heap → Option R} {r : R} (hk : opW tt o ρ h id k0 = some r) :
    ∃ v h', k0 v h' = some r ∧ Keeps true id h h' ∧ ∀ k : V → Heap → Option R, opW tt o ρ h id k = k v h' := by
  have kset : ∀ i ob, h.at i ≠ .free → Keeps true id h (h.set i ob) := fun i ob hi => ⟨by simp, fun j _ _ hf => by
    rw [at_set_ne _ (fun e : i = j => hi (by rw [e]; exact hf))]; exact hf⟩
  have kset2 : ∀ i ob ob', h.at i ≠ .free → Keeps true id h ((h.set i ob).set id ob') := fun i ob ob' hi => ⟨by simp, fun j hj _ hf => by
    rw [at_set_ne _ (Ne.symm (hj rfl)), at_set_ne _ (fun e : i = j => hi (by rw [e]; exact hf))]; exact hf⟩
  cases o <;> simp only [opW] at hk ⊢ <;> try (first | cases hk)
  case store t x y =>
    split at hk <;> try (first | cases hk)
    rename_i vs hvs
    split at hk <;> try (first | cases hk)
    rename_i hc
    split at hk <;> try (first | cases hk)
    · rename_i i o hx
      split at hk <;> try (first | cases hk)
      · rename_i cs hcs
        split at hk <;> try (first | cases hk)
        rename_i hl
        exact ⟨_, _, hk, kset i _ (by rw [hcs]; simp), fun k => by simp only [*, if_true]⟩
      rename_i u hcs
      split at hk <;> try (first | cases hk)
      exact ⟨_, _, hk, kset i _ (by rw [hcs]; simp), fun k => by simp only [*, if_true]⟩
    · rename_i i sz j o hx
      split at hk <;> try (first | cases hk)
      rename_i T l hcs
      split at hk <;> try (first | cases hk)
      rename_i hs
      split at hk <;> try (first | cases hk)
      rename_i hl
      split at hk <;> try (first | cases hk)
      rename_i z hz
      obtain ⟨hb, hk⟩ := chk_some hk
      exact ⟨_, _, hk, kset i _ (by rw [hcs]; simp), fun k => by simp only [*, if_true, chk, cond_true]⟩
  case slice t x lo hi mx =>
    cases hb : (lo.isNone && hi.isNone && mx.isNone) with
    | false => rw [hb] at hk; cases hk
    | true =>
      rw [hb, cond_true] at hk
      unfold sliceArrK at hk
      split at hk <;> try (first | cases hk)
      rename_i m e i ht hx
      split at hk <;> try (first | cases hk)
      rename_i cs hcs
      split at hk <;> try (first | cases hk)
      rename_i T' hT
      split at hk <;> try (first | cases hk)
      rename_i hc
      split at hk <;> try (first | cases hk)
      rename_i l hl
      exact ⟨_, _, hk, kset i _ (by rw [hcs]; simp), fun k => by
        rw [cond_true]
        unfold sliceArrK
        simp only [ht, hx, hcs, hT]
        rw [if_pos hc, hl]⟩
  case mapUpdate t m x y =>
    split at hk <;> try (first | cases hk)
    rename_i kt vt i ht hx
    split at hk <;> try (first | cases hk)
    rename_i K V' l hm
    split at hk <;> try (first | cases hk)
    rename_i hf
    split at hk <;> try (first | cases hk)
    rename_i kx vx hkx hvx
    exact ⟨_, _, hk, kset i _ (by rw [hm]; simp), fun k => by simp only [ht, hx, hm, hf, hkx, hvx, if_true]⟩
  case insert t m x y =>
    split at hk <;> try (first | cases hk)
    rename_i kt vt i ht hx
    split at hk <;> try (first | cases hk)
    rename_i K V' l hm
    split at hk <;> try (first | cases hk)
    rename_i hf
    split at hk <;> try (first | cases hk)
    rename_i kx vx hkx hvx
    exact ⟨_, _, hk, kset i _ (by rw [hm]; simp), fun k => by simp only [ht, hx, hm, hf, hkx, hvx, if_true]⟩
  case next x str =>
    split at hk <;> try (first | cases hk)
    rename_i i hx
    split at hk <;> try (first | cases hk)
    rename_i s pos hit
    cases hb : decide (pos < s.length) with
    | true =>
      rw [hb] at hk
      exact ⟨_, _, hk, kset i _ (by rw [hit]; simp), fun k => by simp only [hx, hit, hb, cond_true]⟩
    | false =>
      rw [hb] at hk
      exact ⟨_, _, hk, .refl _ _ _, fun k => by simp only [hx, hit, hb, cond_false]⟩
  case call cl =>
    have happ : ∀ e s x, appendK tt e s x h id k0 = some r → ∃ v h', k0 v h' = some r ∧ Keeps true id h h' ∧ ∀ k : V → Heap → Option R, appendK tt e s x h id k = k v h' := by
      intro e s x hk
      unfold appendK at hk
      have hk0 := chk_some hk
      clear hk
      obtain ⟨hvok, hk⟩ := hk0
      unfold appendK0 at hk
      split at hk <;> try (first | cases hk)
      rename_i T hT
      split at hk <;> try (first | cases hk)
      rename_i hc
      split at hk <;> try (first | cases hk)
      rename_i m hm
      split at hk <;> try (first | cases hk)
      · obtain ⟨hb, hk⟩ := chk_some hk
        split at hk
        · rename_i hr
          exact ⟨_, _, hk, Keeps.set _, fun k => by simp only [appendK, appendK0, hvok, hT, hc, hm, if_true, hb, chk, cond_true, hr]⟩
        · rename_i hr
          exact ⟨_, _, hk, Keeps.set _, fun k => by simp only [appendK, appendK0, hvok, hT, hc, hm, if_true, hb, chk, cond_true, if_neg hr]⟩
      · split at hk <;> try (first | cases hk)
        rename_i hq
        subst hq
        split at hk <;> try (first | cases hk)
        · obtain ⟨hb, hk⟩ := chk_some hk
          exact ⟨_, _, hk, Keeps.set _, fun k => by simp only [appendK, appendK0, hvok, hT, hc, hm, if_true, hb, chk, cond_true, dite_true]⟩
        · split at hk <;> try (first | cases hk)
          rename_i hi
          obtain ⟨hb, hk⟩ := chk_some hk
          exact ⟨_, _, hk, kset2 _ _ _ (by rw [hi]; simp), fun k => by simp only [appendK, appendK0, hvok, hT, hc, hm, hi, if_true, hb, chk, cond_true, dite_true]⟩
      · split at hk <;> try (first | cases hk)
        rename_i T' l hi
        split at hk <;> try (first | cases hk)
        rename_i hq
        subst hq
        obtain ⟨hb, hk⟩ := chk_some hk
        exact ⟨_, _, hk, kset2 _ _ _ (by rw [hi]; simp), fun k => by simp only [appendK, appendK0, hvok, hT, hc, hm, hi, if_true, hb, chk, cond_true, dite_true]⟩
    split at hk <;> try (first | cases hk)
    split at hk <;> try (first | cases hk)
    · obtain ⟨v, h', h1, h2, h3⟩ := happ _ _ _ hk
      exact ⟨v, h', h1, h2, fun k => by simp [*]⟩
    · obtain ⟨v, h', h1, h2, h3⟩ := happ _ _ _ hk
      exact ⟨v, h', h1, h2, fun k => by simp [*]⟩

theorem put_rep {st : List V} {a : Act} (r : RepL w h c st a.tmps.toList) (dst : Option Nat) {v : V} {d : Value} (rv : Rep w h c v d) : RepL w h c (putF st dst v) (a.put dst d).tmps.toList := by
  cases dst with
  | none => exact r
  | some j => simpa [putF, Act.put] using r.set j rv

theorem put_defers (a : Act) (dst : Option Nat) (d : Value) : (a.put dst d).defers = a.defers := by cases dst <;> rfl
theorem stepK_sound (T : TOK P tt) {E : Env R} (hE : EOk P E) {o : Oper} {st : St} {a : Act} {drawn : Option Nat} {id : Nat} {k : St → Option R} {r : R} (hk : stepK tt E drawn id o st k = some r) (sim : Sim w c st a)
    (hid : isAlloc tt o = true → id < st.hp.length ∧ st.hp.at id = .free) {next : Act → World → Prop} {Q : Exit → Act → World → Prop}
    (hn : ∀ d w' st' c' v, Sim w' c' st' (a.put o.dst d) → Ext w st.hp c w' st'.hp c' → Keeps (isAlloc tt o) id st.hp st'.hp → st'.fr = putF st.fr o.dst v → (opCls tt o.op ≠ .W → (opCls tt o.op = .C → (drawn.isNone || !plainOp E o.op) = false) → ∀ i, (isAlloc tt o = true → i ≠ id) → st'.hp.at i = st.hp.at i) → k st' = some r → next (a.put o.dst d) w') : o.wp P a w next Q := by
  have hρ := fun x => ev_rep sim.fr x
  unfold stepK at hk
  unfold Oper.wp
  simp only at hk
  split at hk
  · rename_i hcls
    obtain ⟨v, d, h1, h2, h3⟩ := opP_sound (w := w) T hρ hk
    rw [h1, Oper.upon_value]
    exact hn d w ⟨putF st.fr o.dst v, st.hp⟩ c v ⟨sim.wf, put_rep sim.fr _ h2⟩ (.refl _ _ _) (.refl _ _ _) rfl (fun _ _ _ _ => rfl) h3
  · rename_i hcls
    obtain ⟨v, d, h1, h2, h3⟩ := opR_sound T sim.wf hρ hk
    rw [h1, Oper.upon_value]
    exact hn d w ⟨putF st.fr o.dst v, st.hp⟩ c v ⟨sim.wf, put_rep sim.fr _ h2⟩ (.refl _ _ _) (.refl _ _ _) rfl (fun _ _ _ _ => rfl) h3
  · rename_i hcls
    have hal : isAlloc tt o = true := by simp [isAlloc, hcls]
    obtain ⟨ob, mk, h1, _, h2⟩ := opA_sound T sim.wf hρ hk
    obtain ⟨d, w', c', g1, g2, g3, g4⟩ := h2 id (hid hal).1 (hid hal).2
    rw [g1, Oper.upon_value]
    exact hn d w' ⟨putF st.fr o.dst (mk id), st.hp.set id ob⟩ c' (mk id) ⟨g2, put_rep (sim.fr.mono g3) _ g4⟩ g3 (by rw [hal]; exact Keeps.set _) rfl (fun _ _ i hi => at_set_ne _ (Ne.symm (hi hal))) h1
  · rename_i hcls
    have hal : isAlloc tt o = true := by simp [isAlloc, hcls]
    have hk : lowD drawn o.op (ev st.fr) id = true ∧ opW tt o.op (ev st.fr) st.hp id (fun v h => k ⟨putF st.fr o.dst v, h⟩) = some r := by
      revert hk
      cases lowD drawn o.op (ev st.fr) id <;> simp
    obtain ⟨_, hk⟩ := hk
    obtain ⟨v0, h0, hk0, hkeep, hnat⟩ := opW_nat hk
    have hk2 := hnat fun v h' => open Classical in if h' = h0 then k ⟨putF st.fr o.dst v, h'⟩ else none
    simp only [if_true] at hk2
    obtain ⟨v, h', d, w', c', nx, g1, g2, g3, g4, g5, g6⟩ := opW_sound T sim.wf hρ (hid hal).1 (hid hal).2 (hk2.trans hk0)
    split at g6 <;> try (first | cases g6)
    rename_i he
    subst he
    rw [g1]
    rcases g2 with rfl | ⟨rfl, rfl⟩
    · rw [Oper.upon_value]
      exact hn d w' ⟨putF st.fr o.dst v, h'⟩ c' v ⟨g3, put_rep (sim.fr.mono g4) _ g5⟩ g4 (by rw [hal]; exact hkeep) rfl (fun hC => (hC hcls).elim) g6
    · rw [Oper.upon_skip]
      exact hn undef w' ⟨putF st.fr o.dst v, h'⟩ c' v ⟨g3, put_rep (sim.fr.mono g4) _ g5⟩ g4 (by rw [hal]; exact hkeep) rfl (fun hC => (hC hcls).elim) g6
  · rename_i hcls
    split at hk <;> try (first | cases hk)
    rename_i cl hcl
    obtain ⟨g, args, h1, nx, w1, h2, h3⟩ := callK_sound hE sim.wf hcl hρ hk
    rw [h1, h2]
    have fin : ∀ d w', (∃ v h' c', WF w' h' c' ∧ Ext w st.hp c w' h' c' ∧ Rep w' h' c' v d ∧ k ⟨putF st.fr o.dst v, h'⟩ = some r ∧ Keeps false 0 st.hp h' ∧ ((drawn.isNone || !plainOp E o.op) = false → h' = st.hp)) → next (a.put o.dst d) w' := by
      rintro d w' ⟨v, h', c', q1, q2, q3, q4, q5, q6⟩
      exact hn d w' ⟨putF st.fr o.dst v, h'⟩ c' v ⟨q1, put_rep (sim.fr.mono q2) _ q3⟩ q2 q5.weak rfl (fun _ hd i _ => by rw [q6 (hd hcls)]) q4
    cases nx <;> simp only at h3
    · rw [Oper.upon_value]; exact fin _ _ h3
    · rw [Oper.upon_enter]
      exact Calls.mono h3 fun e w' ⟨d, e1, q⟩ => by subst e1; exact fin d w' q
    · rw [Oper.upon_row]
      exact Rows.mono h3 fun d w' q => fin d w' q
  · cases hk
  · cases hk
end

section
variable {P : Program} {tt : TTab} {w w' : World} {h h' : Heap} {c c' : Cfg} {R : Type}

theorem set_same {fr : List V} {d : Nat} {v : V} (h : fr.getD d .undef = v) (hv : v ≠ .undef) : fr.set d v = fr := by
  have hd : d < fr.length := by
    rcases Nat.lt_or_ge d fr.length with hl | hl
    · exact hl
    · simp [List.getD, List.getElem?_eq_none hl] at h; exact (hv h.symm).elim
  have e : fr[d] = v := by simpa [List.getD, List.getElem?_eq_getElem hd] using h
  rw [← e]
  exact List.set_getElem_self hd

theorem guardK_eq {all : List Oper} {o : Oper} {st : St} {run skip : St → Option R} : guardK all o st run skip =
    match o.guard with
    | none => run st
    | some (j, want) =>
      match (all[j]?).bind (·.dst) with
      | none => none
      | some d => match st.fr.getD d .undef with | .bool b => if b = want then run st else skip st | .tuple [] => skip st | _ => none := by
  unfold guardK
  cases o.guard with
  | none => rfl
  | some jw =>
    obtain ⟨j, want⟩ := jw
    simp only
    cases (all[j]?).bind (·.dst) with
    | none => rfl
    | some d =>
      simp only
      cases hb : st.fr.getD d .undef with
      | bool b =>
        have e : (⟨st.fr.set d (.bool b), st.hp⟩ : St) = st := by rw [set_same hb (by simp)]
        cases b <;> cases want <;> simp [e]
      | tuple vs => cases vs <;> rfl
      | _ => rfl

theorem guardK_sound {ops : Array Oper} {o : Oper} {st : St} {a : Act} (sim : Sim w c st a) {run skip : St → Option R} {r : R} (hk : guardK ops.toList o st run skip = some r) :
    (Region.wanted o (yielded ops a.tmps) = true ∧ run st = some r) ∨ (Region.wanted o (yielded ops a.tmps) = false ∧ skip st = some r) := by
  rw [guardK_eq] at hk
  unfold Region.wanted
  split at hk
  · rename_i hg; simp only [hg]; exact .inl ⟨trivial, hk⟩
  · rename_i j want hg
    simp only [hg]
    split at hk <;> try (first | cases hk)
    rename_i d hd
    have hl : ∀ v, st.fr.getD d .undef = v → v ≠ .undef → d < st.fr.length := fun v hv hne => by
      rcases Nat.lt_or_ge d st.fr.length with hl | hl
      · exact hl
      · simp [List.getD, List.getElem?_eq_none hl] at hv; exact (hne hv.symm).elim
    have key : ∀ v, st.fr.getD d .undef = v → v ≠ .undef → ∃ x, a.tmps[d]? = some x ∧ Rep w st.hp c v x := fun v hb hne => by
      have hl := hl v hb hne
      have hl2 : d < a.tmps.size := by rw [← (by simpa using sim.fr.1 : st.fr.length = a.tmps.size)]; exact hl
      exact ⟨a.tmps[d], Array.getElem?_eq_getElem hl2, sim.fr.2 d v a.tmps[d] (by rw [List.getElem?_eq_getElem hl]; simpa [List.getD, List.getElem?_eq_getElem hl] using hb) (by simp)⟩
    have hd' : (ops[j]?).bind (·.dst) = some d := by simpa using hd
    split at hk <;> try (first | cases hk)
    · rename_i b hb
      obtain ⟨x, hx, rv⟩ := key _ hb (by simp)
      have hy : yielded ops a.tmps j = some b := by
        unfold yielded
        rw [hd']
        simp only [Option.bind_some, hx]
        cases rv
        rfl
      rw [hy]
      split at hk
      · rename_i hw; subst hw; exact .inl ⟨by simp, hk⟩
      · rename_i hw; exact .inr ⟨by simpa using hw, hk⟩
    · rename_i hb
      obtain ⟨x, hx, rv⟩ := key _ hb (by simp)
      have hy : yielded ops a.tmps j = none := by
        unfold yielded
        rw [hd']
        simp only [Option.bind_some, hx]
        cases rv
        rfl
      rw [hy]
      exact .inr ⟨by simp, hk⟩

theorem rep_undef : Rep w h c (.tuple []) undef := .tuple rfl (by simp)

def Goes (w : World) (c : Cfg) (st : St) (a : Act) (k : St → Option R) (r : R) (K : Act → World → Prop) : Prop :=
  ∀ a' w' st' c', Sim w' c' st' a' → Ext w st.hp c w' st'.hp c' → a'.defers = a.defers → k st' = some r → K a' w'

def Slots (tt : TTab) (rest : List Oper) (id : Nat) (h : Heap) : Prop := ∀ j, id ≤ j → j < id + (rest.filter (isAlloc tt)).length → j < h.length ∧ h.at j = .free

theorem opsK_sound (T : TOK P tt) {E : Env R} (hE : EOk P E) {ops : Array Oper} {k : St → Option R} {r : R} {Q : Exit → Act → World → Prop} : ∀ (rest : List Oper) (n id : Nat) (w : World) (c : Cfg) (st : St) (a : Act),
    ops.toList.drop n = rest → opsK tt E none ops.toList rest id st k = some r → Sim w c st a → Slots tt rest id st.hp → Goes w c st a k r (Q .normal) → wpOps P ops Q (List.range' n rest.length) a w
  | [], n, id, w, c, st, a, _, hk, sim, _, go => go a w st c sim (.refl _ _ _) rfl hk
  | o :: rest, n, id, w, c, st, a, hd, hk, sim, hs, go => by
    have hn : ops[n]? = some o := by
      have : (ops.toList.drop n)[0]? = some o := by rw [hd]; rfl
      rw [List.getElem?_drop] at this
      simpa using this
    have hd' : ops.toList.drop (n + 1) = rest := by
      have : (ops.toList.drop n).drop 1 = rest := by rw [hd]; rfl
      rwa [List.drop_drop] at this
    rw [List.length_cons, List.range'_succ, wpOps_cons]
    unfold wpOp
    simp only [hn]
    simp only [opsK, forceSt_eq] at hk
    have hsl : ∀ h', Keeps (isAlloc tt o) id st.hp h' → Slots tt rest (if isAlloc tt o then id + 1 else id) h' := by
      intro h' kp j h1 h2
      cases ha : isAlloc tt o with
      | true =>
        rw [ha] at h1 h2 kp
        simp only [if_true] at h1 h2
        obtain ⟨g1, g2⟩ := hs j (by omega) (by rw [List.filter_cons_of_pos ha, List.length_cons]; omega)
        exact ⟨Nat.lt_of_lt_of_le g1 kp.1, kp.2 j (fun _ => by omega) g1 g2⟩
      | false =>
        rw [ha] at h1 h2 kp
        simp only [Bool.false_eq_true, if_false] at h1 h2
        obtain ⟨g1, g2⟩ := hs j (by omega) (by rw [List.filter_cons_of_neg (by simp [ha])]; omega)
        exact ⟨Nat.lt_of_lt_of_le g1 kp.1, kp.2 j (fun h => by cases h) g1 g2⟩
    rcases guardK_sound sim hk with ⟨hw, hk⟩ | ⟨hw, hk⟩
    · rw [if_pos hw]
      refine .inl (stepK_sound T hE hk sim (fun ha => hs id (Nat.le_refl _) (by rw [List.filter_cons_of_pos ha, List.length_cons]; omega)) fun d w' st' c' v sim' x kp _ _ hk' => ?_)
      refine opsK_sound T hE rest (n + 1) _ w' c' st' _ hd' hk' sim' (hsl _ kp) fun a2 w2 st2 c2 s2 x2 d2 k2 => ?_
      exact go a2 w2 st2 c2 s2 (x.trans x2) (d2.trans (put_defers _ _ _)) k2
    · rw [if_neg (by simp [hw])]
      refine opsK_sound T hE rest (n + 1) _ w c ⟨putF st.fr o.dst (.tuple []), st.hp⟩ _ hd' hk ⟨sim.wf, put_rep sim.fr _ rep_undef⟩ (hsl _ (.refl _ _ _)) fun a2 w2 st2 c2 s2 x2 d2 k2 => ?_
      exact go a2 w2 st2 c2 s2 x2 (d2.trans (put_defers _ _ _)) k2

theorem at_free {n i : Nat} : Heap.at (h ++ List.replicate n .free) i = h.at i ∨ (h.length ≤ i ∧ Heap.at (h ++ List.replicate n .free) i = .free) := by
  rcases Nat.lt_or_ge i h.length with hi | hi
  · exact .inl (at_append_left hi)
  · rcases Nat.lt_or_ge (i - h.length) n with hj | hj
    · refine .inr ⟨hi, ?_⟩
      rw [at_append_right hi]
      simp [Heap.at, List.getD, List.getElem?_replicate, hj]
    · refine .inl ?_
      rw [at_append_right hi]
      have h1 : ¬ (i - h.length < n) := by omega
      have h2 : ¬ (i < h.length) := by omega
      simp [Heap.at, List.getD, List.getElem?_replicate, h1, List.getElem?_eq_none hi]

theorem at_out {i : Nat} (hi : h.length ≤ i) : h.at i = .dead := by simp [Heap.at, List.getD, List.getElem?_eq_none hi]

theorem slots_owns {n b x : Nat} : Owns (h ++ List.replicate n .free) c b x ↔ Owns h c b x := by
  constructor
  · rintro ⟨i, f, h1, h2, h3⟩
    rcases at_free (h := h) (n := n) (i := i) with e | ⟨_, e⟩
    · exact ⟨i, f, h1, e ▸ h2, h3⟩
    · rw [e] at h2; cases h2
  · rintro ⟨i, f, h1, h2, h3⟩
    rcases at_free (h := h) (n := n) (i := i) with e | ⟨hi, e⟩
    · exact ⟨i, f, h1, e.symm ▸ h2, h3⟩
    · rw [at_out hi] at h2; cases h2

theorem slots_ext (n : Nat) : Ext w h c w (h ++ List.replicate n .free) c where
  os := rfl
  tape := rfl
  output := rfl
  size := Nat.le_refl _
  used := fun i hi => ⟨by simp; have := hi.1; omega, by
    rw [at_append_left hi.1]; exact hi.2⟩
  same := fun i hi hd => by
    rw [at_append_left hi.1] at hd ⊢
    exact ⟨sim_refl (live_of hi.2 hd) (fun _ _ _ => .inr trivial), rfl, rfl⟩
  cell := fun _ _ _ _ => rfl
  block := fun _ _ _ => rfl
  owns := fun b x _ ho => slots_owns.1 ho
  ext := rfl
  arr := fun b arr e fz hb => ⟨arr, fz, hb, rfl⟩

theorem slots_wf (wf : WF w h c) (n : Nat) : WF w (h ++ List.replicate n .free) c where
  lay := wf.lay_ext (slots_ext n)
  disj := fun b x ho => wf.disj b x (slots_owns.1 ho)
  extlt := wf.extlt
  obj := fun i hi => by
    rcases at_free (h := h) (n := n) (i := i) with e | ⟨_, e⟩
    · rw [e]
      rcases Nat.lt_or_ge i h.length with hl | hl
      · have ho := wf.obj i hl
        by_cases hv : (h.at i).live
        · exact ho.keep (slots_ext n) (fun _ _ => rfl) rfl rfl
        · have h0 : h.at i = .free ∨ h.at i = .dead := by revert hv; cases h.at i <;> simp [AObj.live]
          rcases h0 with h0 | h0 <;> rw [h0] <;> trivial
      · rw [at_out hl]; trivial
    · rw [e]; trivial
  inj := fun i j b hi hj h1 h2 => by
    have hl : ∀ i, (Heap.at (h ++ List.replicate n .free) i).live → (h.at i).live := fun i hi => by
      rcases at_free (h := h) (n := n) (i := i) with e | ⟨_, e⟩
      · rw [e] at hi; exact hi
      · rw [e] at hi; exact hi.elim
    exact wf.inj i j b (hl i hi) (hl j hj) h1 h2

theorem region_sound (T : TOK P tt) {E : Env R} (hE : EOk P E) {id : Nat} {ops : Array Oper} {k : St → Option R} {r : R} {Q : Exit → Act → World → Prop} {st : St} {a : Act}
    (hk : regionK tt E ops.toList false st k = some r) (sim : Sim w c st a) (go : Goes w c st a k r (Q .normal)) : (Code.region id ops false).wp P Q a w := by
  refine wp_region ?_
  simp only [regionK, Bool.false_eq_true, if_false] at hk
  have := opsK_sound T hE (ops := ops) (Q := Q) ops.toList 0 st.hp.length w c _ a rfl hk ⟨slots_wf sim.wf _, sim.fr.mono (slots_ext _)⟩ ?_ ?_
  · rw [List.range_eq_range']
    simpa using this
  · intro j h1 h2
    refine ⟨by simp; omega, ?_⟩
    rw [at_append_right h1]
    have : j - st.hp.length < (ops.toList.filter (isAlloc tt)).length := by omega
    simp [Heap.at, List.getD, List.getElem?_replicate, this]
  · exact fun a2 w2 st2 c2 s2 x2 d2 k2 => go a2 w2 st2 c2 s2 ((slots_ext _).trans x2) d2 k2
end

section
variable {P : Program} {tt : TTab} {w w' : World} {h h' : Heap} {c c' : Cfg} {R : Type}

def one (tt : TTab) (E : Env R) (S : Option (Bool × List Nat)) (base : Nat) (all : List Oper) (o : Oper) (id : Nat) (st : St) (k : St → Option R) : Option R :=
  guardK all o st (fun st => bif okS tt E base S all o (ev st.fr) st.hp then stepK tt E (drS tt S base o) id o st k else none) (fun st => k ⟨putF st.fr o.dst (.tuple []), st.hp⟩)

abbrev Item' := Nat × Oper × Nat

def opsP (tt : TTab) (E : Env R) (S : Option (Bool × List Nat)) (base : Nat) (all : List Oper) : List Item' → St → (St → Option R) → Option R
  | [], st, k => k st
  | x :: rest, st, k => one tt E S base all x.2.1 x.2.2 st fun st => opsP tt E S base all rest st k

def number (tt : TTab) : List Oper → Nat → Nat → List Item'
  | [], _, _ => []
  | o :: rest, i, id => (i, o, id) :: number tt rest (i + 1) (if isAlloc tt o then id + 1 else id)

theorem opsK_eq {E : Env R} {base : Nat} {all : List Oper} : ∀ (l : List Oper) (i id : Nat) (st : St) (k : St → Option R),
    opsK tt E (some base) all l id st k = opsP tt E none base all (number tt l i id) st k
  | [], _, _, _, _ => rfl
  | o :: l, i, id, st, k => by
    simp only [opsK, forceSt_eq, number, opsP, one, okS, drS, cond_true]
    congr 1
    · funext st
      congr 1
      funext st
      exact opsK_eq l _ _ _ _
    · funext st
      exact opsK_eq l _ _ _ _

theorem opsS_eq {E : Env R} {A : Bool × List Nat} {base : Nat} {all : List Oper} : ∀ (l : List Oper) (i id : Nat) (st : St) (k : St → Option R),
    opsS tt E base A all l id st k = opsP tt E (some A) base all (number tt l i id) st k
  | [], _, _, _, _ => rfl
  | o :: l, i, id, st, k => by
    simp only [opsS, forceSt_eq, number, opsP, one]
    congr 1
    · funext st
      congr 1
      congr 1
      funext st
      exact opsS_eq l _ _ _ _
    · funext st
      exact opsS_eq l _ _ _ _

theorem drS_ne {S : Option (Bool × List Nat)} {base : Nat} {o : Oper} (h : opCls tt o.op ≠ .W) : drS tt S base o = some base := by
  unfold drS
  split
  · split
    · rename_i hc; exact (h hc).elim
    · rfl
  · rfl
theorem drS_some {S : Option (Bool × List Nat)} {base : Nat} {o : Oper} (h : S.map (·.1) ≠ some true) : drS tt S base o = some base := by
  unfold drS
  split
  · exact (h rfl).elim
  · rfl

structure Eff where
  dst : Option Nat
  v : V
  put : Option (Nat × AObj)

def Eff.hp (e : Eff) (h : Heap) : Heap := match e.put with | none => h | some (i, ob) => h.set i ob
def eff (st : St) (e : Eff) : St := ⟨putF st.fr e.dst e.v, e.hp st.hp⟩

theorem putF_getD {fr : List V} {dst : Option Nat} {v : V} {t : Nat} (h : dst ≠ some t) : (putF fr dst v).getD t .undef = fr.getD t .undef := by
  cases dst with
  | none => rfl
  | some d =>
    have : d ≠ t := fun e => h (by rw [e])
    simp [putF, List.getD, List.getElem?_set_ne this]

theorem putF_comm {fr : List V} {x y : Option Nat} {u v : V} (h : ∀ d, x = some d → y ≠ some d) : putF (putF fr x u) y v = putF (putF fr y v) x u := by
  cases x with
  | none => rfl
  | some d =>
    cases y with
    | none => rfl
    | some e =>
      have : d ≠ e := fun he => h d rfl (by rw [he])
      simp only [putF]
      exact List.set_comm _ _ this

theorem ev_of {fr fr' : List V} {o : Oper} {all : List Oper} (h : ∀ t ∈ looks all o, fr'.getD t .undef = fr.getD t .undef) : ∀ x ∈ o.op.operands, ev fr' x = ev fr x := by
  intro x hx
  cases x with
  | tmp t => exact h t (List.mem_append_left _ (List.mem_filterMap.2 ⟨.tmp t, by simpa using hx, rfl⟩))
  | _ => rfl

theorem guard_of {fr fr' : List V} {hp hp' : Heap} {o : Oper} {all : List Oper} (h : ∀ t ∈ looks all o, fr'.getD t .undef = fr.getD t .undef) {run skip run' skip' : St → Option R}
    (hr : run' ⟨fr', hp'⟩ = run ⟨fr, hp⟩) (hs : skip' ⟨fr', hp'⟩ = skip ⟨fr, hp⟩) : guardK all o ⟨fr', hp'⟩ run' skip' = guardK all o ⟨fr, hp⟩ run skip := by
  rw [guardK_eq, guardK_eq]
  cases hg : o.guard with
  | none => exact hr
  | some jw =>
    obtain ⟨j, want⟩ := jw
    simp only
    cases hd : (all[j]?).bind (·.dst) with
    | none => rfl
    | some d =>
      have := h d (by
        refine List.mem_append_right _ ?_
        simp only [hg, hd]
        simp)
      simp only [this, hr, hs]

theorem opR_heap {o : Op} {ρ : Operand → V} {lim : Option Nat} {h2 : Heap} (e : ∀ i ∈ readIds o ρ, limOk lim i = true → (h2.at i).rd = (h.at i).rd) {k : V → Option R} : opR tt o ρ h2 lim k = opR tt o ρ h lim k := by
  have e' : ∀ i ∈ readIds o ρ, limOk lim i = true → h2.at i = h.at i ∨ ((h2.at i = .tok ∨ h2.at i = .dead ∨ h2.at i = .free) ∧ (h.at i = .tok ∨ h.at i = .dead ∨ h.at i = .free)) := fun i hm hi => rd_eq (e i hm hi)
  clear e
  cases o <;> simp only [opR]
  case load t x =>
    split
    · rename_i i o hx
      split
      · rename_i hl
        rcases e' i (by simp [readIds, hx, V.ids]) hl with h1 | ⟨h1 | h1 | h1, g2 | g2 | g2⟩ <;> (first | (simp only [h1, g2]; done) | (simp only [h1]; done) | rfl | (simp only [h1, g2]; (repeat' split) <;> first | rfl | contradiction | simp_all))
      · rfl
    · rfl
    · rename_i i _ _ _ hx
      split
      · rename_i hl
        rcases e' i (by simp [readIds, hx, V.ids]) hl with h1 | ⟨h1 | h1 | h1, g2 | g2 | g2⟩ <;> (first | (simp only [h1, g2]; done) | (simp only [h1]; done) | (simp only [h1, g2]; (repeat' split) <;> first | rfl | contradiction | simp_all))
      · rfl
    · rfl
  case lookup t x ix ok =>
    split
    · rename_i kt vt i _ hx
      split
      · rename_i hl
        rcases e' i (by simp [readIds, hx, V.ids]) hl with h1 | ⟨h1 | h1 | h1, g2 | g2 | g2⟩ <;> (first | simp only [h1, g2] | simp only [h1])
      · rfl
    · rfl
  case convert s d x =>
    split
    · rename_i i _ _ _ hx
      split
      · rename_i hl
        rcases e' i (by simp [readIds, hx, V.ids]) hl with h1 | ⟨h1 | h1 | h1, g2 | g2 | g2⟩ <;> (first | (simp only [h1, g2]; done) | (simp only [h1]; done) | (simp only [h1, g2]; (repeat' split) <;> first | rfl | contradiction | simp_all))
      · rfl
    · rfl
    · rfl
    · rfl

def Agree (S : Option (Bool × List Nat)) (E : Env R) (all : List Oper) (tt : TTab) (base : Nat) (x : Oper) (st st2 : St) : Prop :=
  (∀ t ∈ looks all x, st2.fr.getD t .undef = st.fr.getD t .undef) ∧ (opCls tt x.op = .R → ∀ i, i < base → (∀ A, S = some (true, A) → farR tt E all x = true → i ∈ A) → (∀ A, S = some (false, A) → farR2 tt E all x = true → i ∉ A) → (st2.hp.at i).rd = (st.hp.at i).rd)

def turns (tt : TTab) (E : Env R) (o : Op) : Prop := (clsIn tt E o = .W ∧ appOp o = false) ∨ (clsIn tt E o = .F ∧ softOp E o = false)

def Kept (S : Option (Bool × List Nat)) (tt : TTab) (E : Env R) (all : List Oper) (base : Nat) (o : Oper) (h h' : Heap) : Prop :=
  (∀ i, i < base → (h'.at i).rd = (h.at i).rd) ∨ ((turns tt E o.op ∨ (S.map (·.1) = some true ∧ appOp o.op = true)) ∧ (clsIn tt E o.op = .F → ∀ A, S = some (true, A) → ∀ i ∈ A, (h'.at i).rd = (h.at i).rd) ∧ (viaS all o = true → ∀ A, S = some (false, A) → ∀ i, i ∉ A → (h'.at i).rd = (h.at i).rd))

theorem clsIn_ne {E : Env R} {o : Op} (h : opCls tt o ≠ .C) : clsIn tt E o = opCls tt o := by
  unfold clsIn
  split
  · rename_i hc; exact (h hc).elim
  · rfl

def calm (a : Cls) : Bool := match a with | .P | .R | .A => true | _ => false

theorem readIds_congr {o : Op} {ρ ρ' : Operand → V} (h : ∀ x ∈ o.operands, ρ' x = ρ x) : readIds o ρ' = readIds o ρ := by
  cases o <;> simp only [readIds] <;> rw [h _ (by simp [Op.operands])]
theorem storeIds_congr {o : Op} {ρ ρ' : Operand → V} (h : ∀ x ∈ o.operands, ρ' x = ρ x) : storeIds o ρ' = storeIds o ρ := by
  cases o <;> simp only [storeIds] <;> rw [h _ (by simp [Op.operands])]
theorem callIds_congr {o : Op} {ρ ρ' : Operand → V} {hp : Heap} (h : ∀ x ∈ o.operands, ρ' x = ρ x) : callIds o ρ' hp = callIds o ρ hp := by
  unfold callIds
  split
  · rename_i cl
    split
    · rename_i f hf
      have e1 : ρ' f = ρ f := h f (by simp [Op.operands, Call.operands, hf])
      have e2 : cl.args.toList.map ρ' = cl.args.toList.map ρ := List.map_congr_left fun z hz => h z (by simp [Op.operands, Call.operands]; exact .inr (by simpa using hz))
      rw [e1, e2]
    · rfl
  · rfl
theorem okS_frame {E : Env R} {base : Nat} {S : Option (Bool × List Nat)} {all : List Oper} {x : Oper} {fr fr' : List V} {hp : Heap} (h : ∀ t ∈ looks all x, fr'.getD t .undef = fr.getD t .undef) : okS tt E base S all x (ev fr') hp = okS tt E base S all x (ev fr) hp := by
  cases S with
  | none => rfl
  | some A => obtain ⟨m, A⟩ := A; cases m <;> simp only [okS] <;> rw [readIds_congr (ev_of h), storeIds_congr (ev_of h)] <;> rw [callIds_congr (ev_of h)]
theorem okS_calm {E : Env R} {base : Nat} {S : Option (Bool × List Nat)} {all : List Oper} {x : Oper} {fr fr' : List V} {hp hp' : Heap} (hc : calm (opCls tt x.op) = true) (h : ∀ t ∈ looks all x, fr'.getD t .undef = fr.getD t .undef) : okS tt E base S all x (ev fr') hp' = okS tt E base S all x (ev fr) hp := by
  rw [okS_frame (fr := fr) h]
  cases S with
  | none => rfl
  | some A =>
    obtain ⟨m, A⟩ := A
    cases m <;> simp only [okS] <;> revert hc <;> cases opCls tt x.op <;> simp [calm]

theorem one_nat {E : Env R} {S : Option (Bool × List Nat)} {base : Nat} {all : List Oper} {x : Oper} {id : Nat} {st : St} {k0 : St → Option R} {r : R} (hc : calm (opCls tt x.op) = true) (hk : one tt E S base all x id st k0 = some r) :
    ∃ e : Eff, e.dst = x.dst ∧ (∀ i ob, e.put = some (i, ob) → i = id ∧ opCls tt x.op = .A) ∧ k0 (eff st e) = some r ∧ ∀ st2, Agree S E all tt base x st st2 → ∀ k, one tt E S base all x id st2 k = k (eff st2 e) := by
  unfold one at hk ⊢
  -- the guard says the same
  have hgu : ∀ st2, Agree S E all tt base x st st2 → ∀ (run skip : St → Option R), guardK all x st2 run skip = guardK all x st (fun _ => run st2) (fun _ => skip st2) := by
    intro st2 ha run skip
    obtain ⟨fr, hp⟩ := st
    obtain ⟨fr2, hp2⟩ := st2
    exact guard_of ha.1 rfl rfl
  have hsame : ∀ run skip : St → Option R, (∀ run' skip' : St → Option R, guardK all x st run' skip' = run' st) ∨ (∀ run' skip' : St → Option R, guardK all x st run' skip' = skip' st) ∨ guardK all x st run skip = none := by
    intro run skip
    simp only [guardK_eq]
    cases x.guard with
    | none => exact .inl fun _ _ => rfl
    | some jw =>
      obtain ⟨j, want⟩ := jw
      simp only
      cases (all[j]?).bind (·.dst) with
      | none => exact .inr (.inr rfl)
      | some d =>
        simp only
        cases st.fr.getD d .undef with
        | bool b => by_cases hb : b = want <;> simp [hb]
        | tuple vs =>
          cases vs with
          | nil => exact .inr (.inl fun _ _ => rfl)
          | cons _ _ => exact .inr (.inr rfl)
        | _ => exact .inr (.inr rfl)
  rcases hsame _ _ with hg | hg | hg
  · rw [hg] at hk
    obtain ⟨hS, hk⟩ : okS tt E base S all x (ev st.fr) st.hp = true ∧ stepK tt E (drS tt S base x) id x st k0 = some r := by
      cases hS : okS tt E base S all x (ev st.fr) st.hp with
      | true => rw [hS] at hk; exact ⟨rfl, hk⟩
      | false => rw [hS] at hk; cases hk
    have hnW : opCls tt x.op ≠ .W := fun e => by rw [e] at hc; cases hc
    rw [drS_ne hnW] at hk ⊢
    have hS2 : ∀ st2, Agree S E all tt base x st st2 → okS tt E base S all x (ev st2.fr) st2.hp = true := fun st2 ha => by rw [← hS]; exact okS_calm hc ha.1
    unfold stepK at hk
    simp only at hk
    split at hk
    · rename_i hcls
      obtain ⟨v, h1, h2⟩ := opP_nat hk
      refine ⟨⟨x.dst, v, none⟩, rfl, by simp, h1, fun st2 ha k => ?_⟩
      rw [hgu st2 ha, hg, hS2 st2 ha, cond_true]
      simp only [stepK, hcls]
      rw [opP_congr (ev_of ha.1), h2]
      rfl
    · rename_i hcls
      obtain ⟨v, h1, h2⟩ := opR_nat hk
      refine ⟨⟨x.dst, v, none⟩, rfl, by simp, h1, fun st2 ha k => ?_⟩
      rw [hgu st2 ha, hg, hS2 st2 ha, cond_true]
      simp only [stepK, hcls]
      rw [opR_congr (ev_of ha.1), opR_heap (h := st.hp) fun i hm hi => ha.2 hcls i (by simpa [limOk] using hi) (fun A hA hf => ?_) fun A hA hf => ?_, h2 _ fun i hi => rfl]
      · rfl
      · subst hA
        simp only [okS, hcls, hf, Bool.not_true, Bool.false_or, List.all_eq_true] at hS
        simpa using hS i hm
      · subst hA
        simp only [okS, hcls, hf, Bool.not_true, Bool.false_or, List.all_eq_true] at hS
        simpa using hS i hm
    · rename_i hcls
      obtain ⟨ob, mk, h1, h2⟩ := opA_nat hk
      refine ⟨⟨x.dst, mk id, some (id, ob)⟩, rfl, by simp [hcls], h1, fun st2 ha k => ?_⟩
      rw [hgu st2 ha, hg, hS2 st2 ha, cond_true]
      simp only [stepK, hcls]
      rw [opA_congr (ev_of ha.1), h2]
      rfl
    all_goals (rename_i hcls; rw [hcls] at hc; cases hc)
  · rw [hg] at hk
    refine ⟨⟨x.dst, .tuple [], none⟩, rfl, by simp, hk, fun st2 ha k => ?_⟩
    rw [hgu st2 ha, hg]
    rfl
  · rw [hg] at hk; cases hk

theorem apart_spec {all : List Oper} {x y : Oper} (h : apartB all x y = true) :
    (∀ d, x.dst = some d → d ∉ looks all y) ∧ (∀ d, x.dst = some d → y.dst ≠ some d) ∧ (∀ d, y.dst = some d → d ∉ looks all x) := by
  refine ⟨fun d hd => ?_, fun d hd => ?_, fun d hd => ?_⟩ <;> simp [apartB, hd] at h
  · exact h.1.1
  · exact h.1.2
  · exact h.2

theorem ofConst_func {fr : List V} {c : Value} {g : Nat} {a b : List V} (h : ev fr (.const c) = .func g a b) : False := by
  simp only [ev] at h
  unfold ofConst at h
  split at h
  · cases h
  · unfold ofConst1 at h
    split at h <;> (try split at h) <;> cases h


theorem reach_seen {i : Nat} : ∀ (n : Nat) (todo seen : List Nat), i ∈ seen → i ∈ reach h n todo seen
  | 0, _, _, hi => hi
  | _ + 1, [], _, hi => hi
  | n + 1, j :: todo, seen, hi => by
    unfold reach
    split
    · exact reach_seen n _ _ hi
    · exact reach_seen n _ _ (by simp [hi])
theorem reach_set {i : Nat} {ob : AObj} : ∀ (n : Nat) (todo seen : List Nat), i ∉ reach h n todo seen → reach (h.set i ob) n todo seen = reach h n todo seen
  | 0, _, _, _ => rfl
  | _ + 1, [], _, _ => rfl
  | n + 1, j :: todo, seen, hi => by
    unfold reach at hi ⊢
    split
    · rename_i hc
      rw [if_pos hc] at hi
      exact reach_set n _ _ hi
    · rename_i hc
      rw [if_neg hc] at hi
      have hne : i ≠ j := by
        rintro rfl
        exact hi (reach_seen n _ _ (by simp))
      rw [at_set_ne _ hne]
      exact reach_set n _ _ hi
theorem set_set {i : Nat} {ob : AObj} : (h.set i ob).set i (h.at i) = h := by
  rw [List.set_set]
  apply List.ext_getElem?
  intro j
  rw [List.getElem?_set]
  split
  · rename_i e
    subst e
    split
    · rename_i hl
      simp [Heap.at, List.getD, List.getElem?_eq_getElem hl]
    · rename_i hl
      exact (List.getElem?_eq_none (by omega)).symm
  · rfl
theorem callIds_set {o : Op} {ρ : Operand → V} {i : Nat} {ob : AObj} (hi : i ∉ callIds o ρ h) : callIds o ρ (h.set i ob) = callIds o ρ h := by
  unfold callIds at hi ⊢
  split at hi <;> try rfl
  split at hi <;> try rfl
  split at hi <;> try rfl
  exact reach_set _ _ _ hi
theorem callIds_set2 {o : Op} {ρ : Operand → V} {i : Nat} {ob : AObj} (hi : i ∉ callIds o ρ (h.set i ob)) : callIds o ρ (h.set i ob) = callIds o ρ h := by
  have h1 := callIds_set (ob := h.at i) hi
  rw [set_set] at h1
  exact h1.symm
theorem pick_set {i : Nat} {ob : AObj} {ord : List Nat} (hi : i ∉ ord) : Heap.pick (h.set i ob) ord = h.pick ord := by
  unfold Heap.pick
  refine List.map_congr_left fun j hj => ?_
  rw [at_set_ne _ (by rintro rfl; exact hi hj)]
theorem putAll_set {i : Nat} {ob : AObj} : ∀ (l : List (Nat × AObj)) (h : Heap), (∀ x ∈ l, x.1 ≠ i) → Heap.putAll (h.set i ob) l = (Heap.putAll h l).set i ob
  | [], _, _ => rfl
  | x :: l, h, hl => by
    simp only [Heap.putAll]
    rw [List.set_comm _ _ (Ne.symm (hl x (by simp)))]
    exact putAll_set l _ fun y hy => hl y (by simp [hy])
theorem back_set {i : Nat} {ob : AObj} {ord : List Nat} (hi : i ∉ ord) (hl : i < h.length) (h' : Heap) : Heap.back (h.set i ob) ord h' = (h.back ord h').set i ob := by
  unfold Heap.back
  simp only [List.length_set]
  rw [putAll_set _ _ fun x hx => by
    have := (List.of_mem_zip hx).1
    rintro rfl
    exact hi this]
  rw [List.set_append_left _ _ (by rw [putAll_length]; exact hl)]
theorem callK_set {E : Env R} {cl : Call} (hp : plainOp E (.call cl) = false) (hs : softOp E (.call cl) = false) {full : Bool} {fr : List V} {i : Nat} {ob : AObj} (hi : i ∉ callIds (.call cl) (ev fr) h) (hl : i < h.length) {k : V → Heap → Option R} :
    callK tt E full cl (ev fr) (h.set i ob) k = callK tt E full cl (ev fr) h fun v h' => k v (h'.set i ob) := by
  unfold callK
  split
  · rename_i f hf
    split
    · rename_i g first cap hg
      simp only
      have hids : callIds (.call cl) (ev fr) h = reach h 64 (V.idsL (first ++ cl.args.toList.map (ev fr) ++ cap)) [] := by simp only [callIds, hf, hg]
      rw [hids] at hi
      split
      · exfalso
        rename_i hsp
        cases f with
        | tmp t => simp [plainOp, hf] at hp
        | func g' =>
          simp only [ev, V.func.injEq] at hg
          obtain ⟨rfl, _, _⟩ := hg
          simp [plainOp, hf, hsp] at hp
        | const c => exact ofConst_func hg
        | global _ => simp [ev] at hg
      · rename_i sp hsp
        cases full
        · rfl
        · simp only [cond_true]
          cases hg0 : lay0.soft g with
          | true =>
            exfalso
            cases f with
            | tmp t => simp [plainOp, hf] at hp
            | func g' =>
              simp only [ev, V.func.injEq] at hg
              obtain ⟨rfl, _, _⟩ := hg
              simp [softOp, hf, hg0, hsp] at hs
            | const c => exact ofConst_func hg
            | global _ => simp [ev] at hg
          | false =>
            simp only [cond_false]
            rw [reach_set _ _ _ hi, pick_set hi]
            congr 1
            funext v h'
            rw [back_set hi hl, List.length_set]
      · rfl
    · rfl
  · rfl

theorem callK_congr {E : Env R} {cl : Call} {full : Bool} {ρ ρ' : Operand → V} (hop : ∀ z ∈ cl.operands, ρ' z = ρ z) {k : V → Heap → Option R} : callK tt E full cl ρ' h k = callK tt E full cl ρ h k := by
  have hargs : cl.args.toList.map ρ' = cl.args.toList.map ρ := List.map_congr_left fun z hz => hop z (by simp [Call.operands]; exact .inr (by simpa using hz))
  unfold callK
  split
  · rename_i f hf
    rw [hop f (by simp [Call.operands, hf]), hargs]
  · rfl

theorem one_eff {E : Env R} {S : Option (Bool × List Nat)} {base : Nat} {all : List Oper} {x y : Oper} {e : Eff} {ix id : Nat} (hcl : clsOk (clsIn tt E x.op) (clsIn tt E y.op) = true ∨ (appOp y.op = true ∧ S.map (·.1) ≠ some true ∧ (isAlloc tt x = true → id < ix)) ∨ (opCls tt x.op = .R ∧ appOp y.op = true) ∨ (opCls tt x.op = .R ∧ softOp E y.op = true) ∨ (opCls tt x.op = .R ∧ clsIn tt E y.op = .F) ∨ (opCls tt x.op = .A ∧ S.map (·.1) = some true ∧ clsIn tt E y.op = .F ∧ softOp E y.op = false ∧ capOf tt all base y ≤ ix) ∨ (opCls tt x.op = .R ∧ opCls tt y.op = .W)) (hap : apartB all x y = true) (hc : calm (opCls tt x.op) = true) (he : e.dst = x.dst)
    (hput : ∀ i ob, e.put = some (i, ob) → i = ix ∧ opCls tt x.op = .A) (hid : isAlloc tt x = true → isAlloc tt y = true → ix ≠ id) (hb : isAlloc tt x = true → base ≤ ix) (ht : isAlloc tt x = true → ix < base + (all.filter (isAlloc tt)).length) (st : St) (k : St → Option R) :
    one tt E S base all y id (eff st e) k = one tt E S base all y id st fun st1 => k (eff st1 e) := by
  obtain ⟨a1, a2, a3⟩ := apart_spec hap
  have hl : ∀ t ∈ looks all y, (putF st.fr e.dst e.v).getD t .undef = st.fr.getD t .undef := fun t ht => putF_getD fun h => a1 t (he ▸ h) ht
  have hcomm : ∀ u, putF (putF st.fr e.dst e.v) y.dst u = putF (putF st.fr y.dst u) e.dst e.v := fun u => putF_comm fun d hd => a2 d (he ▸ hd)
  obtain ⟨fr, hpp⟩ := st
  simp only at hl hcomm
  have hokS : okS tt E base S all y (ev (putF fr e.dst e.v)) (e.hp hpp) = okS tt E base S all y (ev fr) hpp := by
    rw [okS_frame hl]
    match S, hcl with
    | none, _ => rfl
    | some (false, A), _ => simp only [okS]
    | some (true, A), hcl =>
      simp only [okS]
      split
      · rfl
      · rename_i hcy
        cases hf : isF tt E y.op with
        | false => rfl
        | true =>
          have hF : clsIn tt E y.op = .F := by revert hf; unfold isF; cases clsIn tt E y.op <;> simp
          cases hq : e.put with
          | none => simp only [Eff.hp, hq]
          | some jo =>
            obtain ⟨j, ob⟩ := jo
            obtain ⟨rfl, hA⟩ := hput j ob hq
            have hna : appOp y.op = true → False := fun ha => by rw [app_cls ha] at hcy; cases hcy
            rcases hcl with hcl | ⟨h, _⟩ | ⟨_, h⟩ | ⟨h, _⟩ | ⟨h, _⟩ | ⟨_, _, _, hsf, hbj⟩ | ⟨h, _⟩
            · rw [clsIn_ne (by rw [hA]; simp), hF, hA] at hcl
              cases hcl
            · exact (hna h).elim
            · exact (hna h).elim
            · rw [hA] at h; cases h
            · rw [hA] at h; cases h
            · simp only [Eff.hp, hq, hsf, Bool.not_true, Bool.false_or, List.length_set]
              by_cases hm : j ∈ callIds y.op (ev fr) hpp
              · have hm2 : j ∈ callIds y.op (ev fr) (hpp.set j ob) := by
                  by_cases hm2 : j ∈ callIds y.op (ev fr) (hpp.set j ob)
                  · exact hm2
                  · rw [callIds_set2 hm2]; exact hm
                have hf1 : ∀ l : List Nat, j ∈ l → l.all (fun i => Nat.blt i (capOf tt all base y)) = false := fun l hl => by
                  rw [List.all_eq_false]
                  exact ⟨j, hl, by simpa using hbj⟩
                rw [hf1 _ hm, hf1 _ hm2]
                simp
              · rw [callIds_set hm]
            · rw [hA] at h; cases h
      · rfl
      · rfl
  unfold one
  refine guard_of hl ?_ ?_
  · simp only [eff]
    rw [hokS]
    cases hS : okS tt E base S all y (ev fr) hpp with
    | false => rfl
    | true =>
    simp only [cond_true]
    unfold stepK
    simp only
    split
    · rw [opP_congr (ev_of hl)]
      simp only [hcomm]
    · rename_i hcy
      rw [drS_ne (by rw [hcy]; simp), opR_congr (ev_of hl), opR_heap (h := hpp)]
      · simp only [hcomm]
      · intro i _ hi
        unfold Eff.hp
        split
        · rfl
        · rename_i j ob hj
          obtain ⟨rfl, hA⟩ := hput _ _ hj
          have := hb (by simp [isAlloc, hA])
          simp [limOk] at hi
          rw [at_set_ne _ (by omega)]
    · rename_i hcy
      rw [opA_congr (ev_of hl)]
      simp only [hcomm]
      congr 1
      funext ob mk
      congr 2
      unfold Eff.hp
      split
      · rfl
      · rename_i j ob' hj
        obtain ⟨rfl, hA⟩ := hput _ _ hj
        exact List.set_comm _ _ (hid (by simp [isAlloc, hA]) (by simp [isAlloc, hcy]))
    · rename_i hcy
      rw [lowD_congr (ev_of hl)]
      cases hlow : lowD (drS tt S base y) y.op (ev fr) id with
      | false => rfl
      | true =>
        simp only [Bool.not_true, cond_false]
        cases hq : e.put with
        | none =>
          rw [opW_congr (ev_of hl)]
          simp only [hcomm, Eff.hp, hq]
        | some jo =>
          obtain ⟨j, ob⟩ := jo
          obtain ⟨rfl, hA⟩ := hput j ob hq
          have hy : appOp y.op = true ∧ S.map (·.1) ≠ some true ∧ id < j := by
            rcases hcl with h | ⟨h, h3, h2⟩ | ⟨h, _⟩ | ⟨h, _⟩ | ⟨h, _⟩ | ⟨_, _, h, _⟩ | ⟨h, _⟩
            · rw [clsIn_ne (by rw [hA]; simp), clsIn_ne (by rw [hcy]; simp), hA, hcy] at h; cases h
            · exact ⟨h, h3, h2 (by simp [isAlloc, hA])⟩
            · rw [hA] at h; cases h
            · rw [hA] at h; cases h
            · rw [hA] at h; cases h
            · rw [clsIn_ne (by rw [hcy]; simp), hcy] at h; cases h
            · rw [hA] at h; cases h
          rw [opW_congr (ev_of hl)]
          simp only [hcomm, Eff.hp, hq]
          have hlow' : lowApp base y.op (ev fr) id = true := by rw [drS_some hy.2.1] at hlow; exact hlow
          exact opW_set hy.1 hlow' hy.2.2
    · rename_i hcy
      rw [drS_ne (by rw [hcy]; simp)]
      split
      · rename_i cl hcl'
        simp only [hcomm]
        have hop : ∀ z ∈ cl.operands, ev (putF fr e.dst e.v) z = ev fr z := fun z hz => ev_of hl z (by rw [hcl']; exact hz)
        have hargs : cl.args.toList.map (ev (putF fr e.dst e.v)) = cl.args.toList.map (ev fr) := List.map_congr_left fun z hz => hop z (by simp [Call.operands]; exact .inr (by simpa using hz))
        cases hpl : plainOp E y.op with
        | true =>
          have hfull : (Option.isNone (some base) || !true) = false := rfl
          rw [hcl'] at hpl
          rw [hfull]
          unfold callK
          split
          · rename_i f hf
            rw [hop f (by simp [Call.operands, hf]), hargs]
            split
            · split
              · simp only [cond_false]
              · rfl
              · rfl
            · rfl
          · rfl
        | false =>
          have hF : clsIn tt E y.op = .F := by unfold clsIn; rw [hcy]; simp [hpl]
          rw [callK_congr hop]
          cases hq : e.put with
          | none =>
            have hh2 : ∀ h2, e.hp h2 = h2 := fun h2 => by simp [Eff.hp, hq]
            simp only [hh2]
          | some jo =>
            obtain ⟨j, ob⟩ := jo
            obtain ⟨rfl, hA⟩ := hput j ob hq
            have hna : appOp y.op = true → False := fun ha => by rw [app_cls ha] at hcy; cases hcy
            rcases hcl with hcl | ⟨h, _⟩ | ⟨_, h⟩ | ⟨h, _⟩ | ⟨h, _⟩ | ⟨_, h2, _, hsf, hbj⟩ | ⟨h, _⟩
            · rw [clsIn_ne (by rw [hA]; simp), hF, hA] at hcl
              cases hcl
            · exact (hna h).elim
            · exact (hna h).elim
            · rw [hA] at h; cases h
            · rw [hA] at h; cases h
            · have hh2 : ∀ h2, e.hp h2 = h2.set j ob := fun h2 => by simp [Eff.hp, hq]
              simp only [hh2]
              have hif : isF tt E y.op = true := by unfold isF; rw [hF]
              match S, h2, hS with
              | some (true, A), _, hS =>
                simp only [okS, hcy, hif, hsf, Bool.not_true, Bool.false_or, Bool.and_eq_true, List.all_eq_true] at hS
                have htj := ht (by simp [isAlloc, hA])
                have h3 : base + (all.filter (isAlloc tt)).length ≤ hpp.length := by simpa using hS.1.1
                rw [hcl'] at hpl hsf
                refine callK_set hpl hsf (fun hm => ?_) (by omega)
                have h4 := hS.1.2 j (by rw [hcl']; exact hm)
                simp at h4
                omega
            · rw [hA] at h; cases h
      · rfl
    · rfl
    · rfl
  · simp only [eff, hcomm]

theorem callK_soft {E : Env R} (hE : EOk P E) {cl : Call} (hs : softOp E (.call cl) = true) {full : Bool} {fr : List V} {k k' : V → Heap → Option R} (he : ∀ v, k v h = k' v h) :
    callK tt E full cl (ev fr) h k = callK tt E full cl (ev fr) h k' := by
  unfold softOp at hs
  simp only at hs
  split at hs
  · rename_i g hg
    simp only [Bool.and_eq_true] at hs
    obtain ⟨h1, h2⟩ := hs
    split at h2
    · rename_i sp hsp
      unfold callK
      simp only [hg, ev, hsp, h1]
      cases full
      · rfl
      · simp only [cond_true]
        exact (hE g _ sp hsp).2 rfl h1 _ _ _ _ he
    · cases h2
  · cases hs

theorem callK_back {E : Env R} {cl : Call} (hp : plainOp E (.call cl) = false) (hs : softOp E (.call cl) = false) {full : Bool} {fr : List V} {k k' : V → Heap → Option R}
    (he : ∀ v h', (∀ i, i < h.length → i ∉ callIds (.call cl) (ev fr) h → h'.at i = h.at i) → k v h' = k' v h') (h0 : ∀ v, k v h = k' v h) : callK tt E full cl (ev fr) h k = callK tt E full cl (ev fr) h k' := by
  unfold callK
  split
  · rename_i f hf
    split
    · rename_i g first cap hg
      simp only
      split
      · split
        · congr 1
          funext v h'
          cases h' with
          | nil => exact h0 v
          | cons _ _ => rfl
        · cases full
          · rfl
          · simp only [cond_true]
            unfold lendK
            split
            · congr 1
              funext v h'
              cases h' with
              | nil => simp only [h0]
              | cons _ _ => rfl
            · rfl
      · rename_i sp hsp
        cases full
        · rfl
        · simp only [cond_true]
          cases hg0 : lay0.soft g with
          | true =>
            exfalso
            cases f with
            | tmp t => simp [plainOp, hf] at hp
            | func g' =>
              simp only [ev, V.func.injEq] at hg
              obtain ⟨rfl, _, _⟩ := hg
              simp [softOp, hf, hg0, hsp] at hs
            | const c => exact ofConst_func hg
            | global _ => simp [ev] at hg
          | false =>
            simp only [cond_false]
            congr 1
            funext v h'
            refine he _ _ fun i hi hn => ?_
            unfold Heap.back
            simp only
            rw [at_append_left (by rw [putAll_length]; exact hi)]
            refine putAll_not _ _ _ ?_
            simpa only [callIds, hf, hg] using hn
      · rfl
    · rfl
  · rfl

theorem via_store {all : List Oper} {x : Oper} (h : viaField all x = true ∨ viaIndex all x = true) : ∃ t a y, x.op = .store t a y ∧ x.dst = none ∧ x.guard = none := by
  rcases h with h | h
  · unfold viaField at h
    split at h
    · rename_i ho
      simp only [Bool.and_eq_true, Option.isNone_iff_eq_none] at h
      exact ⟨_, _, _, ho, h.1.1, h.1.2⟩
    · cases h
  · unfold viaIndex at h
    split at h
    · rename_i ho
      simp only [Bool.and_eq_true, Option.isNone_iff_eq_none] at h
      exact ⟨_, _, _, ho, h.1.1, h.1.2⟩
    · cases h
theorem viaS_store {all : List Oper} {x : Oper} (h : viaS all x = true) : ∃ t a y, x.op = .store t a y ∧ x.dst = none ∧ x.guard = none := by
  unfold viaS at h
  rw [Bool.or_eq_true] at h
  rcases h with h | h
  · exact via_store (.inl h)
  · unfold viaMade at h
    split at h
    · rename_i ho
      simp only [Bool.and_eq_true, Option.isNone_iff_eq_none] at h
      exact ⟨_, _, _, ho, h.1.1, h.1.2⟩
    · cases h
theorem farW_spec {all : List Oper} {x y : Oper} (h : farW all x y = true) : (viaField all x = true ∧ viaIndex all y = true) ∨ (viaIndex all x = true ∧ viaField all y = true) := by
  simpa only [farW, Bool.or_eq_true, Bool.and_eq_true] using h
theorem farW_cls {all : List Oper} {x y : Oper} (h : farW all x y = true) : opCls tt x.op = .W ∧ opCls tt y.op = .W := by
  have h1 : ∀ z, viaField all z = true ∨ viaIndex all z = true → opCls tt z.op = .W := fun z hz => by
    obtain ⟨t, a, y, e, _⟩ := via_store hz
    rw [e]; rfl
  rcases farW_spec h with ⟨h2, h3⟩ | ⟨h2, h3⟩
  · exact ⟨h1 _ (.inl h2), h1 _ (.inr h3)⟩
  · exact ⟨h1 _ (.inr h2), h1 _ (.inl h3)⟩
theorem store_cases (t : Nat) (a y : Operand) (ρ : Operand → V) (h : Heap) (id : Nat) :
    (∀ k : V → Heap → Option R, opW tt (.store t a y) ρ h id k = none) ∨ ∃ i ob, i ∈ (ρ a).ids ∧ ∀ (h2 : Heap) (id2 : Nat) (k : V → Heap → Option R), h2.at i = h.at i → opW tt (.store t a y) ρ h2 id2 k = k .undef (h2.set i ob) := by
  simp only [opW]
  cases hvs : flatK (ρ y) with
  | none => exact .inl fun k => rfl
  | some vs =>
  simp only
  by_cases hc : (tt.ok t && decide (vs.length = (tt.at t).size)) = true
  rotate_left
  · exact .inl fun k => by rw [if_neg hc]
  simp only [hc, if_true]
  cases hx : ρ a with
  | ptr i o =>
    simp only
    cases hi : h.at i with
    | cells cs =>
      by_cases hle : o + vs.length ≤ cs.length
      · exact .inr ⟨i, .cells (splice cs o vs), by simp [V.ids], fun h2 id2 k e => by simp only [e, hi, hle, if_true]⟩
      · exact .inl fun k => by simp only [hle, if_false]
    | bld bv =>
      match o, vs with
      | 1, [v] => exact .inr ⟨i, .bld v, by simp [V.ids], fun h2 id2 k e => by simp only [e, hi]⟩
      | 0, _ => exact .inl fun k => rfl
      | 1, [] => exact .inl fun k => rfl
      | 1, _ :: _ :: _ => exact .inl fun k => rfl
      | _ + 2, _ => exact .inl fun k => rfl
    | _ => exact .inl fun k => rfl
  | rptr i sz j o =>
    simp only
    cases hi : h.at i with
    | row T l =>
      by_cases hsz : sz = T.sz
      · by_cases hle : o + vs.length ≤ (T.cells (l.getD j T.dflt)).length
        · cases hz : T.dec (splice (T.cells (l.getD j T.dflt)) o vs) with
          | none => exact .inl fun k => by simp only [hsz, hle, if_true, hz]
          | some z =>
            by_cases hj : j < l.length
            · exact .inr ⟨i, .row T (l.set j z), by simp [V.ids], fun h2 id2 k e => by simp only [e, hi, hsz, hle, if_true, hz, chk, hj, decide_true, cond_true]⟩
            · exact .inl fun k => by simp only [hsz, hle, if_true, hz, chk, hj, decide_false, cond_false]
        · exact .inl fun k => by simp only [hsz, hle, if_true, if_false]
      · exact .inl fun k => by simp only [hsz, if_false]
    | _ => exact .inl fun k => rfl
  | _ => exact .inl fun k => rfl
theorem store_nat {t : Nat} {a y : Operand} {ρ : Operand → V} {id : Nat} {k0 : V → Heap → Option R} {r : R} (hk : opW tt (.store t a y) ρ h id k0 = some r) :
    ∃ i ob, i ∈ (ρ a).ids ∧ k0 .undef (h.set i ob) = some r ∧ ∀ (h2 : Heap) (id2 : Nat) (k : V → Heap → Option R), h2.at i = h.at i → opW tt (.store t a y) ρ h2 id2 k = k .undef (h2.set i ob) := by
  rcases store_cases (tt := tt) (R := R) t a y ρ h id with h1 | ⟨i, ob, h1, h2⟩
  · rw [h1] at hk; cases hk
  · rw [h2 h id k0 rfl] at hk
    exact ⟨i, ob, h1, hk, h2⟩

theorem one_congr {E : Env R} (hE : EOk P E) {S : Option (Bool × List Nat)} {base : Nat} {all : List Oper} {y : Oper} {id : Nat} {st : St} {k k' : St → Option R} (hb : isAlloc tt y = true → base ≤ id)
    (h : ∀ v hp', Kept S tt E all base y st.hp hp' → k ⟨putF st.fr y.dst v, hp'⟩ = k' ⟨putF st.fr y.dst v, hp'⟩) : one tt E S base all y id st k = one tt E S base all y id st k' := by
  have h0 : ∀ v, k ⟨putF st.fr y.dst v, st.hp⟩ = k' ⟨putF st.fr y.dst v, st.hp⟩ := fun v => h v _ (.inl fun _ _ => rfl)
  obtain ⟨fr, hpp⟩ := st
  unfold one
  refine guard_of (fun _ _ => rfl) ?_ (h0 _)
  cases hS : okS tt E base S all y (ev fr) hpp with
  | false => rfl
  | true =>
  simp only [cond_true]
  unfold stepK
  simp only at h h0 ⊢
  split
  · simp only [h0]
  · simp only [h0]
  · rename_i hcy
    congr 1
    funext ob mk
    refine h _ _ (.inl fun i hi => ?_)
    have := hb (by simp [isAlloc, hcy])
    rw [at_set_ne _ (by omega)]
  · rename_i hcy
    have hbi := hb (by simp [isAlloc, hcy])
    cases hlow : lowD (drS tt S base y) y.op (ev fr) id with
    | false => rfl
    | true =>
      simp only [Bool.not_true, cond_false]
      by_cases ha : appOp y.op = true
      · by_cases hst : S.map (·.1) = some true
        · congr 1
          funext v h'
          refine h v h' (.inr ⟨.inr ⟨hst, ha⟩, fun hF => ?_, fun hv => ?_⟩)
          · rw [clsIn_ne (by rw [hcy]; simp), hcy] at hF; cases hF
          · obtain ⟨t, a, z, ey, _⟩ := viaS_store hv
            rw [ey] at ha; cases ha
        have hlow' : lowApp base y.op (ev fr) id = true := by rw [drS_some hst] at hlow; exact hlow
        exact opW_mono ha hbi hlow' fun v h' hrd => h v h' (.inl fun i hi => hrd i (by omega))
      · have htu : turns tt E y.op := .inl ⟨by rw [clsIn_ne (by rw [hcy]; simp), hcy], by simpa using ha⟩
        have hnF : clsIn tt E y.op ≠ .F := fun hF => by rw [clsIn_ne (by rw [hcy]; simp), hcy] at hF; cases hF
        by_cases hv : viaS all y = true
        · obtain ⟨t, a, z, ey, _, _⟩ := viaS_store hv
          rw [ey]
          rcases store_cases (tt := tt) (R := R) t a z (ev fr) hpp id with h1 | ⟨i, ob, h1, h2⟩
          · rw [h1, h1]
          · rw [h2 hpp id _ rfl, h2 hpp id _ rfl]
            refine h _ _ (.inr ⟨.inl htu, fun hF => (hnF hF).elim, fun _ A hA j hj => ?_⟩)
            subst hA
            simp only [okS, hcy, hv, Bool.not_true, Bool.false_or, List.all_eq_true] at hS
            have h3 := hS i (by rw [ey]; exact h1)
            rw [at_set_ne _ (by rintro rfl; exact hj (by simpa using h3))]
        · congr 1
          funext v h'
          exact h v h' (.inr ⟨.inl htu, fun hF => (hnF hF).elim, fun hv2 => (hv hv2).elim⟩)
  · rename_i hcy
    rw [drS_ne (by rw [hcy]; simp)]
    split
    · rename_i cl hcl
      cases hpl : plainOp E y.op with
      | true =>
        have hfull : (Option.isNone (some base) || !true) = false := rfl
        rw [hfull]
        unfold callK
        split
        · split
          · split
            · simp only
              split
              · congr 1
                funext v h'
                cases h' with
                | nil => exact h0 v
                | cons _ _ => rfl
              · rfl
            · rfl
            · rfl
          · rfl
        · rfl
      | false =>
        have hF : clsIn tt E y.op = .F := by unfold clsIn; rw [hcy]; simp [hpl]
        cases hs : softOp E y.op with
        | true => exact callK_soft hE (by rw [← hcl]; exact hs) fun v => h0 v
        | false =>
          have htu : turns tt E y.op := .inr ⟨hF, hs⟩
          refine callK_back (by rw [hcl] at hpl; exact hpl) (by rw [hcl] at hs; exact hs) (fun v h' hh => h v h' (.inr ⟨.inl htu, fun _ A hA => ?_, fun hv => ?_⟩)) fun v => h0 v
          rotate_left
          · obtain ⟨t, a, z, ey, _⟩ := viaS_store hv
            rw [ey] at hcl; cases hcl
          subst hA
          have hif : isF tt E y.op = true := by unfold isF; rw [hF]
          simp only [okS, hcy, hif, hs, Bool.not_true, Bool.false_or, List.all_eq_true, Bool.and_eq_true] at hS
          intro i hi
          have h1 := hS.2 i hi
          rw [hcl] at h1
          rw [hh i (by simpa using h1.1) (by simpa using h1.2)]
    · rfl
  · rfl
  · rfl
end

section
variable {P : Program} {tt : TTab} {w w' : World} {h h' : Heap} {c c' : Cfg} {R : Type}

theorem wp_const {o : Oper} {a : Act} {G : Prop} (h : o.wp P a w (fun _ _ => G) (fun _ _ _ => G)) : G := by
  unfold Oper.wp at h
  generalize (execOp a.eval o).run P w = r at h
  cases r with
  | ok n w' =>
    cases n <;> simp only [Oper.upon] at h <;> try (first | exact h | exact h.elim)
    · obtain ⟨e, w', fr, hR, _⟩ := h []
      cases e with
      | returned v => exact hR
      | panicked c => exact hR
      | outgrown => obtain ⟨_, _, g⟩ := hR; exact g
    · obtain ⟨v, w', g, _⟩ := h (Frame.enter P 0 #[] .normal) []
      exact g
  | halt x w' => cases x <;> simp only [Oper.upon] at h <;> first | exact h | exact h.elim

theorem one_reach (T : TOK P tt) {E : Env R} (hE : EOk P E) {S : Option (Bool × List Nat)} {base : Nat} {ops : Array Oper} {y : Oper} {id : Nat} {st : St} {a : Act} {k : St → Option R} {r : R} (hk : one tt E S base ops.toList y id st k = some r) (sim : Sim w c st a)
    (hid : isAlloc tt y = true → base ≤ id ∧ id < st.hp.length ∧ st.hp.at id = .free) :
    ∃ w1 c1 st1 a1 v, Sim w1 c1 st1 a1 ∧ k st1 = some r ∧ st1.fr = putF st.fr y.dst v ∧ Kept S tt E ops.toList base y st.hp st1.hp ∧ Keeps (isAlloc tt y) id st.hp st1.hp := by
  classical
  obtain ⟨k', hk', hof⟩ : ∃ k' : St → Option R, one tt E S base ops.toList y id st k' = some r ∧ ∀ st1, k' st1 = some r → k st1 = some r ∧ Kept S tt E ops.toList base y st.hp st1.hp := by
    refine ⟨fun st1 => if Kept S tt E ops.toList base y st.hp st1.hp then k st1 else none, ?_, fun st1 e => ?_⟩
    · rw [← hk]
      refine one_congr hE (fun ha => (hid ha).1) fun v hp' ht => ?_
      rw [if_pos ht]
    · simp only at e
      split at e
      · exact ⟨e, ‹_›⟩
      · cases e
  rcases guardK_sound sim hk' with ⟨_, hk⟩ | ⟨_, hk⟩
  · have hk : stepK tt E (drS tt S base y) id y st k' = some r := by
      cases hS : okS tt E base S ops.toList y (ev st.fr) st.hp with
      | true => rw [hS] at hk; exact hk
      | false => rw [hS] at hk; cases hk
    refine wp_const (P := P) (o := y) (a := a) (w := w) (stepK_sound T hE hk sim (fun ha => (hid ha).2) fun d w' st' c' v sim' x kp hf _ hk' => ?_)
    exact ⟨w', c', st', _, v, sim', (hof _ hk').1, hf, (hof _ hk').2, kp⟩
  · exact ⟨w, c, ⟨putF st.fr y.dst (.tuple []), st.hp⟩, a.put y.dst undef, .tuple [], ⟨sim.wf, put_rep sim.fr _ rep_undef⟩, (hof _ hk).1, rfl, .inl fun _ _ => rfl, .refl _ _ _⟩

structure Good (tt : TTab) (base : Nat) (all : List Oper) (rem : List Item') (h : Heap) : Prop where
  top : ∀ z ∈ rem, isAlloc tt z.2.1 = true → z.2.2 < base + (all.filter (isAlloc tt)).length
  cap : rem.Pairwise fun z z' => isAlloc tt z'.2.1 = true → capOf tt all base z.2.1 ≤ z'.2.2
  slot : ∀ z ∈ rem, isAlloc tt z.2.1 = true → base ≤ z.2.2 ∧ z.2.2 < h.length ∧ h.at z.2.2 = .free
  apart : rem.Pairwise fun z z' => isAlloc tt z.2.1 = true → isAlloc tt z'.2.1 = true → z.2.2 < z'.2.2

theorem Good.sub {base : Nat} {all : List Oper} {rem rem' : List Item'} (g : Good tt base all rem h) (hs : List.Sublist rem' rem) : Good tt base all rem' h :=
  ⟨fun z hz => g.top z (hs.subset hz), g.cap.sublist hs, fun z hz => g.slot z (hs.subset hz), g.apart.sublist hs⟩

theorem Good.step {base : Nat} {all : List Oper} {x : Item'} {pre post : List Item'} (g : Good tt base all (pre ++ x :: post) h) (kp : Keeps (isAlloc tt x.2.1) x.2.2 h h') : Good tt base all (pre ++ post) h' := by
  have hs : List.Sublist (pre ++ post) (pre ++ x :: post) := List.Sublist.append (List.Sublist.refl _) (List.sublist_cons_self _ _)
  refine ⟨fun z hz => g.top z (hs.subset hz), g.cap.sublist hs, fun z hz ha => ?_, g.apart.sublist hs⟩
  obtain ⟨h1, h2, h3⟩ := g.slot z (hs.subset hz) ha
  refine ⟨h1, Nat.lt_of_lt_of_le h2 kp.1, kp.2 _ (fun hx => ?_) h2 h3⟩
  have hp := g.apart
  rw [List.pairwise_append, List.pairwise_cons] at hp
  rcases List.mem_append.1 hz with hz | hz
  · have := hp.2.2 z hz x (by simp) ha hx; omega
  · have := hp.2.1.1 z hz hx ha; omega

theorem apart_symm {all : List Oper} {x y : Oper} (h2 : apartB all x y = true) : apartB all y x = true := by
  obtain ⟨a1, a2, a3⟩ := apart_spec h2
  simp only [apartB, Bool.and_eq_true]
  constructor
  · cases hd : y.dst with
    | none => rfl
    | some d =>
      have h3 := a3 d hd
      have h4 : x.dst ≠ some d := fun e => a2 d e hd
      simp [h3, h4]
  · cases hd : x.dst with
    | none => rfl
    | some d => simp [a1 d hd]
theorem clsOk_symm {a b : Cls} (h : clsOk a b = true) : clsOk b a = true := by revert h; cases a <;> cases b <;> simp [clsOk]
theorem pair_spec {E : Env R} {all : List Oper} {x y : Oper} (h : pairOk tt E all x y = true) : apartB all x y = true ∧
    (clsOk (clsIn tt E x.op) (clsIn tt E y.op) = true ∨ (appOp x.op = true ∧ (clsIn tt E y.op = .A ∨ clsIn tt E y.op = .R)) ∨ (clsIn tt E x.op = .R ∧ appOp y.op = true) ∨ (softOp E x.op = true ∧ clsIn tt E y.op = .R) ∨ (clsIn tt E x.op = .R ∧ softOp E y.op = true)) := by
  simp only [pairOk, Bool.and_eq_true, Bool.or_eq_true, tokPair] at h
  obtain ⟨h1, h2⟩ := h
  refine ⟨h2, ?_⟩
  rcases h1 with h1 | (⟨h1, h3⟩ | ⟨h1, h3⟩) | (⟨h1, h3⟩ | ⟨h1, h3⟩)
  · exact .inl h1
  · refine .inr (.inl ⟨h1, ?_⟩)
    revert h3; cases clsIn tt E y.op <;> simp
  · refine .inr (.inr (.inl ⟨?_, h3⟩))
    revert h1; cases clsIn tt E x.op <;> simp
  · refine .inr (.inr (.inr (.inl ⟨h1, ?_⟩)))
    revert h3; cases clsIn tt E y.op <;> simp
  · refine .inr (.inr (.inr (.inr ⟨?_, h3⟩)))
    revert h1; cases clsIn tt E x.op <;> simp
theorem isF_spec {E : Env R} {o : Op} (h : isF tt E o = true) : clsIn tt E o = .F := by revert h; unfold isF; cases clsIn tt E o <;> simp
theorem far_spec {E : Env R} {all : List Oper} {x : Oper} (h : farR tt E all x = true) : clsIn tt E x.op = .R := by
  simp only [farR, Bool.and_eq_true] at h
  revert h
  cases clsIn tt E x.op <;> simp
theorem far2_spec {E : Env R} {all : List Oper} {x : Oper} (h : farR2 tt E all x = true) : clsIn tt E x.op = .R := by
  simp only [farR2, Bool.and_eq_true] at h
  revert h
  cases clsIn tt E x.op <;> simp
theorem pairS_spec {E : Env R} {far : Option Bool} {all : List Oper} {x y : Oper} (h : pairS tt E far all x y = true) : apartB all x y = true ∧ ((pairOk tt E all x y = true ∧ (far = some true → noApp tt E x y = true)) ∨ (far = some true ∧
    ((farR tt E all x = true ∧ clsIn tt E x.op = .R ∧ clsIn tt E y.op = .F) ∨ (clsIn tt E x.op = .F ∧ softOp E x.op = false ∧ opCls tt y.op = .A) ∨ farW all x y = true ∨ (clsIn tt E x.op = .F ∧ farR tt E all y = true ∧ clsIn tt E y.op = .R))) ∨ (far = some false ∧ farR2 tt E all x = true ∧ clsIn tt E x.op = .R ∧ viaS all y = true)) := by
  unfold pairS at h
  simp only [Bool.or_eq_true, Bool.and_eq_true] at h
  rcases h with ⟨h, hn⟩ | h
  · exact ⟨(pair_spec h).1, .inl ⟨h, fun e => by subst e; exact hn⟩⟩
  · split at h
    · cases h
    · simp only [Bool.or_eq_true, Bool.and_eq_true] at h
      rcases h with ⟨((⟨h2, h3⟩ | ⟨h2, h3, h5⟩) | h2) | ⟨h2, h3⟩, h4⟩
      · exact ⟨h4, .inr (.inl ⟨rfl, .inl ⟨h2, far_spec h2, isF_spec h3⟩⟩)⟩
      · refine ⟨h4, .inr (.inl ⟨rfl, .inr (.inl ⟨isF_spec h2, by simpa using h3, ?_⟩)⟩)⟩
        revert h5
        cases opCls tt y.op <;> simp
      · exact ⟨h4, .inr (.inl ⟨rfl, .inr (.inr (.inl h2))⟩)⟩
      · exact ⟨h4, .inr (.inl ⟨rfl, .inr (.inr (.inr ⟨isF_spec h2, h3, far_spec h3⟩))⟩)⟩
    · simp only [Bool.and_eq_true] at h
      exact ⟨h.2, .inr (.inr ⟨rfl, h.1.1, far2_spec h.1.1, h.1.2⟩)⟩
theorem viaS_cls {all : List Oper} {x : Oper} (h : viaS all x = true) : opCls tt x.op = .W := by
  obtain ⟨t, a, y, e, _⟩ := viaS_store h
  rw [e]; rfl
theorem store_one {E : Env R} {S : Option (Bool × List Nat)} {base : Nat} {all : List Oper} {x : Oper} {id : Nat} {fr : List V} {k0 : St → Option R} {r : R} (hx : viaField all x = true ∨ viaIndex all x = true) (hk : one tt E S base all x id ⟨fr, h⟩ k0 = some r) :
    okS tt E base S all x (ev fr) h = true ∧ ∃ i ob, i ∈ storeIds x.op (ev fr) ∧ k0 ⟨fr, h.set i ob⟩ = some r ∧ ∀ (h2 : Heap) (id2 : Nat) (k : St → Option R), h2.at i = h.at i → one tt E S base all x id2 ⟨fr, h2⟩ k = k ⟨fr, h2.set i ob⟩ := by
  obtain ⟨t, a, y, e, hd, hg⟩ := via_store hx
  obtain ⟨dst, op, ty, pos, after, guard⟩ := x
  simp only at e hd hg
  subst e hd hg
  unfold one at hk ⊢
  rw [guardK_eq] at hk
  simp only at hk
  have hS : okS tt E base S all ⟨none, .store t a y, ty, pos, after, none⟩ (ev fr) h = true := by
    cases hS : okS tt E base S all ⟨none, .store t a y, ty, pos, after, none⟩ (ev fr) h with
    | true => rfl
    | false => rw [hS] at hk; cases hk
  refine ⟨hS, ?_⟩
  have hst : ∀ (dr : Option Nat) (id : Nat) (h : Heap) (k : St → Option R), stepK tt E dr id ⟨none, .store t a y, ty, pos, after, none⟩ ⟨fr, h⟩ k = opW tt (.store t a y) (ev fr) h id fun v h => k ⟨putF fr none v, h⟩ := fun dr id h k => by cases dr <;> rfl
  rw [hS, cond_true, hst] at hk
  obtain ⟨i, ob, h1, h2, h3⟩ := store_nat (tt := tt) (t := t) (a := a) (y := y) (ρ := ev fr) (id := id) (k0 := fun v h => k0 ⟨putF fr none v, h⟩) hk
  refine ⟨i, ob, h1, h2, fun hh id2 k e => ?_⟩
  rw [guardK_eq]
  simp only
  have hS2 : okS tt E base S all ⟨none, .store t a y, ty, pos, after, none⟩ (ev fr) hh = true := by
    rw [← hS]
    match S with
    | none => rfl
    | some (true, A) => rfl
    | some (false, A) => rfl
  rw [hS2, cond_true, hst]
  exact h3 hh id2 (fun v h => k ⟨putF fr none v, h⟩) e
theorem soft_cls {E : Env R} {o : Op} (hs : softOp E o = true) : opCls tt o = .C := by
  unfold softOp at hs
  split at hs
  · split at hs
    · rename_i cl _ g hg
      simp only [opCls, hg]
    · cases hs
  · cases hs
theorem soft_in {E : Env R} {o : Op} (hs : softOp E o = true) : clsIn tt E o = .F := by
  have hc := soft_cls (tt := tt) hs
  have hp : plainOp E o = false := by
    unfold softOp at hs
    unfold plainOp
    split at hs
    · split at hs
      · rename_i cl _ g hg
        simp only [Bool.and_eq_true] at hs
        obtain ⟨_, h2⟩ := hs
        split at h2
        · rename_i sp hsp
          simp only [hg, hsp]
        · cases h2
      · cases hs
    · cases hs
  unfold clsIn
  rw [hc, hp]
  rfl
theorem app_in {E : Env R} {o : Op} (ha : appOp o = true) : clsIn tt E o = .W := by rw [clsIn_ne (by rw [app_cls ha]; simp), app_cls ha]
theorem in_cls {E : Env R} {o : Op} {a : Cls} (h : clsIn tt E o = a) (h1 : a ≠ .C) (h2 : a ≠ .F) : opCls tt o = a := by
  unfold clsIn at h
  split at h
  · revert h; cases plainOp E o <;> intro h <;> subst h <;> simp at h1 h2
  · exact h
theorem turns_not {E : Env R} {all : List Oper} {x y : Oper} (h : pairOk tt E all x y = true ∨ pairOk tt E all y x = true) (hR : opCls tt x.op = .R) : ¬ turns tt E y.op := by
  have hx : clsIn tt E x.op = .R := by rw [clsIn_ne (by rw [hR]; simp), hR]
  intro ht
  have hna : appOp y.op = true → False := fun ha => by
    rcases ht with ⟨_, h⟩ | ⟨h, _⟩
    · rw [ha] at h; cases h
    · rw [app_in ha] at h; cases h
  have hns : softOp E y.op = true → False := fun hs => by
    rcases ht with ⟨h, _⟩ | ⟨_, h⟩
    · rw [soft_in hs] at h; cases h
    · rw [hs] at h; cases h
  have hc : clsOk .R (clsIn tt E y.op) = false := by rcases ht with ⟨h, _⟩ | ⟨h, _⟩ <;> rw [h] <;> rfl
  rcases h with h | h
  · rcases (pair_spec h).2 with h | ⟨h, _⟩ | ⟨_, h⟩ | ⟨h, _⟩ | ⟨_, h⟩
    · rw [hx, hc] at h; cases h
    · rw [app_in h] at hx; cases hx
    · exact hna h
    · rw [soft_in h] at hx; cases hx
    · exact hns h
  · rcases (pair_spec h).2 with h | ⟨h, _⟩ | ⟨h, h'⟩ | ⟨h, _⟩ | ⟨_, h⟩
    · have := clsOk_symm h; rw [hx, hc] at this; cases this
    · exact hna h
    · rw [app_in h'] at hx; cases hx
    · exact hns h
    · rw [soft_in h] at hx; cases hx

theorem Agree.symm {S : Option (Bool × List Nat)} {E : Env R} {all : List Oper} {base : Nat} {x : Oper} {s t : St} (h : Agree S E all tt base x s t) : Agree S E all tt base x t s := ⟨fun u hu => (h.1 u hu).symm, fun hR i hi hA hB => (h.2 hR i hi hA hB).symm⟩
theorem Agree.trans {S : Option (Bool × List Nat)} {E : Env R} {all : List Oper} {base : Nat} {x : Oper} {s t u : St} (h : Agree S E all tt base x s t) (h' : Agree S E all tt base x t u) : Agree S E all tt base x s u :=
  ⟨fun v hv => (h'.1 v hv).trans (h.1 v hv), fun hR i hi hA hB => (h'.2 hR i hi hA hB).trans (h.2 hR i hi hA hB)⟩

theorem agree_behind {E : Env R} {S : Option (Bool × List Nat)} {all : List Oper} {base : Nat} {x y : Oper} (hp : pairS tt E (S.map (·.1)) all x y = true ∨ pairS tt E (S.map (·.1)) all y x = true) {st st1 : St} {v : V} (hf : st1.fr = putF st.fr y.dst v) (hh : Kept S tt E all base y st.hp st1.hp) :
    Agree S E all tt base x st st1 := by
  have h2 : apartB all y x = true := by
    rcases hp with h | h
    · exact apart_symm (pairS_spec h).1
    · exact (pairS_spec h).1
  refine ⟨fun t ht => ?_, fun hR i hi hA hB => ?_⟩
  · rw [hf]
    exact putF_getD fun e => (apart_spec h2).1 t e ht
  · rcases hh with hh | ⟨hW, hh, hh2⟩
    · exact hh i hi
    · have hx : clsIn tt E x.op = .R := by rw [clsIn_ne (by rw [hR]; simp), hR]
      rcases hp with h | h
      · rcases (pairS_spec h).2 with ⟨h, hn⟩ | ⟨h1, ⟨h3, _, h4⟩ | ⟨h4, _⟩ | h4 | ⟨h4, _⟩⟩ | ⟨h1, h3, _, h4⟩
        · rcases hW with hW | ⟨hst, ha⟩
          · exact (turns_not (.inl h) hR hW).elim
          · have := hn hst
            simp [noApp, rdA, hx, ha] at this
        · match S, h1 with
          | some (true, A), _ => exact hh h4 A rfl i (hA A rfl h3)
        · rw [hx] at h4; cases h4
        · rw [(farW_cls (tt := tt) h4).1] at hR; cases hR
        · rw [hx] at h4; cases h4
        · match S, h1 with
          | some (false, A), _ => exact hh2 h4 A rfl i (hB A rfl h3)
      · rcases (pairS_spec h).2 with ⟨h, hn⟩ | ⟨h1, ⟨_, _, h4⟩ | ⟨_, _, h4⟩ | h4 | ⟨h4, h3, _⟩⟩ | ⟨_, _, _, h4⟩
        · rcases hW with hW | ⟨hst, ha⟩
          · exact (turns_not (.inr h) hR hW).elim
          · have := hn hst
            simp [noApp, rdA, hx, ha] at this
        · rw [hx] at h4; cases h4
        · rw [hR] at h4; cases h4
        · rw [(farW_cls (tt := tt) h4).2] at hR; cases hR
        · match S, h1 with
          | some (true, A), _ => exact hh h4 A rfl i (hA A rfl h3)
        · rw [viaS_cls (tt := tt) h4] at hR; cases hR

section
variable {E : Env R} {S : Option (Bool × List Nat)} {base : Nat} {ops : Array Oper} {k : St → Option R} {r : R}

theorem pull (hE : EOk P E) {x : Item'} {e : Eff} {st0 : St} (hc : calm (opCls tt x.2.1.op) = true) (he : e.dst = x.2.1.dst) (hput : ∀ i ob, e.put = some (i, ob) → i = x.2.2 ∧ opCls tt x.2.1.op = .A)
    (hnat : ∀ st2, Agree S E ops.toList tt base x.2.1 st0 st2 → ∀ k, one tt E S base ops.toList x.2.1 x.2.2 st2 k = k (eff st2 e)) (post : List Item') :
    ∀ (pre : List Item') (st : St) (h : Heap), Good tt base ops.toList (pre ++ x :: post) h → (∀ y ∈ pre, pairS tt E (S.map (·.1)) ops.toList y.2.1 x.2.1 = true) → Agree S E ops.toList tt base x.2.1 st0 st →
      opsP tt E S base ops.toList (pre ++ x :: post) st k = opsP tt E S base ops.toList (pre ++ post) (eff st e) k
  | [], st, _, _, _, ha => hnat st ha _
  | y :: pre, st, h, g, hp, ha => by
    have hpy := hp y (by simp)
    have gx : isAlloc tt x.2.1 = true → base ≤ x.2.2 := fun hx => (g.slot x (by simp) hx).1
    have gy : isAlloc tt y.2.1 = true → base ≤ y.2.2 := fun hx => (g.slot y (by simp) hx).1
    have glt : isAlloc tt x.2.1 = true → isAlloc tt y.2.1 = true → y.2.2 < x.2.2 := fun hx hy => by
      have := g.apart
      rw [List.cons_append, List.pairwise_cons] at this
      exact this.1 x (by simp) hy hx
    have gne : isAlloc tt x.2.1 = true → isAlloc tt y.2.1 = true → x.2.2 ≠ y.2.2 := fun hx hy => by have := glt hx hy; omega
    have hcl : clsOk (clsIn tt E x.2.1.op) (clsIn tt E y.2.1.op) = true ∨ (appOp y.2.1.op = true ∧ S.map (·.1) ≠ some true ∧ (isAlloc tt x.2.1 = true → y.2.2 < x.2.2)) ∨ (opCls tt x.2.1.op = .R ∧ appOp y.2.1.op = true) ∨ (opCls tt x.2.1.op = .R ∧ softOp E y.2.1.op = true) ∨ (opCls tt x.2.1.op = .R ∧ clsIn tt E y.2.1.op = .F) ∨ (opCls tt x.2.1.op = .A ∧ S.map (·.1) = some true ∧ clsIn tt E y.2.1.op = .F ∧ softOp E y.2.1.op = false ∧ capOf tt ops.toList base y.2.1 ≤ x.2.2) ∨ (opCls tt x.2.1.op = .R ∧ opCls tt y.2.1.op = .W) := by
      rcases (pairS_spec hpy).2 with ⟨hpo, hna⟩ | ⟨hSo, ⟨_, _, hF⟩ | ⟨hF, hsf, hA⟩ | hW | ⟨hF, _, hR⟩⟩ | ⟨_, _, _, hW⟩
      rotate_left
      rotate_left
      · have hcap : capOf tt ops.toList base y.2.1 ≤ x.2.2 := by
          have := g.cap
          rw [List.cons_append, List.pairwise_cons] at this
          exact this.1 x (by simp) (by simp [isAlloc, hA])
        exact .inr (.inr (.inr (.inr (.inr (.inl ⟨hA, hSo, hF, hsf, hcap⟩)))))
      · rw [(farW_cls (tt := tt) hW).2] at hc; cases hc
      · exact .inr (.inr (.inr (.inr (.inl ⟨in_cls hR (by simp) (by simp), hF⟩))))
      · rw [viaS_cls (tt := tt) hW] at hc; cases hc
      rotate_left
      · have hC : opCls tt x.2.1.op = .C := by
          unfold clsIn at hF
          split at hF
          · assumption
          · rw [hF] at hc; cases hc
        rw [hC] at hc; cases hc
      rcases (pair_spec hpo).2 with h | ⟨h, h'⟩ | ⟨_, h⟩ | ⟨h, h'⟩ | ⟨_, h⟩
      · exact .inl (clsOk_symm h)
      · refine .inr (.inl ⟨h, fun hst => ?_, fun hx => glt hx (by simp [isAlloc, app_cls h])⟩)
        have := hna hst
        rcases h' with h' | h' <;> simp [noApp, rdA, h, h'] at this
      · rw [app_cls h] at hc; cases hc
      · exact .inr (.inr (.inr (.inl ⟨in_cls h' (by simp) (by simp), h⟩)))
      · rw [soft_cls h] at hc; cases hc
    simp only [List.cons_append, opsP]
    rw [one_eff hcl (apart_symm (pairS_spec hpy).1) hc he hput gne gx fun hx => g.top x (by simp) hx]
    refine one_congr hE gy fun v hp' hh => ?_
    exact pull hE hc he hput hnat post pre _ h (g.sub (List.sublist_cons_self _ _)) (fun z hz => hp z (by simp [hz])) (ha.trans (agree_behind (.inr hpy) rfl hh))

theorem find (T : TOK P tt) (hE : EOk P E) {x : Item'} (post : List Item') : ∀ (pre : List Item') (w : World) (c : Cfg) (st : St) (a : Act), Sim w c st a → Good tt base ops.toList (pre ++ x :: post) st.hp → (∀ y ∈ pre, pairS tt E (S.map (·.1)) ops.toList y.2.1 x.2.1 = true) →
    opsP tt E S base ops.toList (pre ++ x :: post) st k = some r → ∃ st' k', Agree S E ops.toList tt base x.2.1 st st' ∧ one tt E S base ops.toList x.2.1 x.2.2 st' k' = some r
  | [], _, _, st, _, _, _, _, hk => ⟨st, _, ⟨fun _ _ => rfl, fun _ _ _ _ _ => rfl⟩, hk⟩
  | y :: pre, w, c, st, a, sim, g, hp, hk => by
    simp only [List.cons_append, opsP] at hk
    obtain ⟨w1, c1, st1, a1, v, s1, hk1, hf, hh, kp⟩ := one_reach T hE hk sim (fun ha => g.slot y (by simp) ha)
    obtain ⟨st', k', h1, h2⟩ := find T hE post pre w1 c1 st1 a1 s1 (Good.step (pre := []) g kp) (fun z hz => hp z (by simp [hz])) hk1
    exact ⟨st', k', (agree_behind (.inr (hp y (by simp))) hf hh).trans h1, h2⟩

theorem pullW (hE : EOk P E) {x : Item'} (post : List Item') : ∀ (pre : List Item') (st : St) (h : Heap), Good tt base ops.toList (pre ++ x :: post) h → (∀ y ∈ pre, pairS tt E (S.map (·.1)) ops.toList y.2.1 x.2.1 = true ∧ (calm (opCls tt y.2.1.op) = true ∨ (S.map (·.1) = some true ∧ farW ops.toList y.2.1 x.2.1 = true))) →
    opsP tt E S base ops.toList (pre ++ x :: post) st k = some r → one tt E S base ops.toList x.2.1 x.2.2 st (fun st1 => opsP tt E S base ops.toList (pre ++ post) st1 k) = some r
  | [], _, _, _, _, hk => hk
  | y :: pre, st, h, g, hp, hk => by
    obtain ⟨hpy, hcy⟩ := hp y (by simp)
    simp only [List.cons_append, opsP] at hk ⊢
    rcases hcy with hcy | ⟨hSo, hW⟩
    rotate_left
    · have hvy : viaField ops.toList y.2.1 = true ∨ viaIndex ops.toList y.2.1 = true := (farW_spec hW).imp (·.1) (·.1)
      have hvx : viaField ops.toList x.2.1 = true ∨ viaIndex ops.toList x.2.1 = true := ((farW_spec hW).imp (·.2) (·.2)).symm
      obtain ⟨fr, hp0⟩ := st
      obtain ⟨sy, i, ob, iy, hk1, ny⟩ := store_one hvy hk
      have ih := pullW hE post pre _ h (g.sub (List.sublist_cons_self _ _)) (fun z hz => hp z (by simp [hz])) hk1
      obtain ⟨sx, j, ob', ix, hk2, nx⟩ := store_one hvx ih
      have hne : i ≠ j := by
        match S, hSo, sy, sx with
        | some (true, A), _, sy, sx =>
          simp only [okS, (farW_cls (tt := tt) hW).1, Bool.and_eq_true, Bool.or_eq_true, Bool.not_eq_true', List.all_eq_true] at sy
          simp only [okS, (farW_cls (tt := tt) hW).2, Bool.and_eq_true, Bool.or_eq_true, Bool.not_eq_true', List.all_eq_true] at sx
          rintro rfl
          rcases farW_spec hW with ⟨g1, g2⟩ | ⟨g1, g2⟩
          · have a1 := sy.1.resolve_left (by simp [g1]) i iy
            have a2 := sx.2.resolve_left (by simp [g2]) i ix
            rw [a1] at a2; cases a2
          · have a1 := sy.2.resolve_left (by simp [g1]) i iy
            have a2 := sx.1.resolve_left (by simp [g2]) i ix
            rw [a2] at a1; cases a1
      rw [nx hp0 _ _ (at_set_ne _ hne).symm, ny (hp0.set j ob') _ _ (at_set_ne _ (Ne.symm hne)), ← List.set_comm _ _ hne]
      exact hk2
    obtain ⟨e, h1, h2, h3, h4⟩ := one_nat hcy hk
    have gx : isAlloc tt x.2.1 = true → base ≤ x.2.2 := fun hx => (g.slot x (by simp) hx).1
    have gy : isAlloc tt y.2.1 = true → base ≤ y.2.2 := fun hx => (g.slot y (by simp) hx).1
    have gne : isAlloc tt y.2.1 = true → isAlloc tt x.2.1 = true → y.2.2 ≠ x.2.2 := fun hy hx => by
      have := g.apart
      rw [List.cons_append, List.pairwise_cons] at this
      exact Nat.ne_of_lt (this.1 x (by simp) hy hx)
    have hcl : clsOk (clsIn tt E y.2.1.op) (clsIn tt E x.2.1.op) = true ∨ (appOp x.2.1.op = true ∧ S.map (·.1) ≠ some true ∧ (isAlloc tt y.2.1 = true → x.2.2 < y.2.2)) ∨ (opCls tt y.2.1.op = .R ∧ appOp x.2.1.op = true) ∨ (opCls tt y.2.1.op = .R ∧ softOp E x.2.1.op = true) ∨ (opCls tt y.2.1.op = .R ∧ clsIn tt E x.2.1.op = .F) ∨ (opCls tt y.2.1.op = .A ∧ S.map (·.1) = some true ∧ clsIn tt E x.2.1.op = .F ∧ softOp E x.2.1.op = false ∧ capOf tt ops.toList base x.2.1 ≤ y.2.2) ∨ (opCls tt y.2.1.op = .R ∧ opCls tt x.2.1.op = .W) := by
      rcases (pairS_spec hpy).2 with ⟨hpo, _⟩ | ⟨_, ⟨_, hR, hF⟩ | ⟨hF, _⟩ | hW | ⟨hF, _⟩⟩ | ⟨_, _, hR, hW⟩
      rotate_left
      · exact .inr (.inr (.inr (.inr (.inl ⟨in_cls hR (by simp) (by simp), hF⟩))))
      · have hC : opCls tt y.2.1.op = .C := by
          unfold clsIn at hF
          split at hF
          · assumption
          · rw [hF] at hcy; cases hcy
        rw [hC] at hcy; cases hcy
      · rw [(farW_cls (tt := tt) hW).1] at hcy; cases hcy
      · have hC : opCls tt y.2.1.op = .C := by
          unfold clsIn at hF
          split at hF
          · assumption
          · rw [hF] at hcy; cases hcy
        rw [hC] at hcy; cases hcy
      · exact .inr (.inr (.inr (.inr (.inr (.inr ⟨in_cls hR (by simp) (by simp), viaS_cls hW⟩)))))
      rcases (pair_spec hpo).2 with h | ⟨h, _⟩ | ⟨h, h'⟩ | ⟨h, _⟩ | ⟨h, h'⟩
      · exact .inl h
      · rw [app_cls h] at hcy; cases hcy
      · exact .inr (.inr (.inl ⟨in_cls h (by simp) (by simp), h'⟩))
      · rw [soft_cls h] at hcy; cases hcy
      · exact .inr (.inr (.inr (.inl ⟨in_cls h (by simp) (by simp), h'⟩)))
    have ih := pullW hE post pre (eff st e) h (g.sub (List.sublist_cons_self _ _)) (fun z hz => hp z (by simp [hz])) h3
    rw [one_eff hcl (pairS_spec hpy).1 hcy h1 h2 gne gy fun hy => g.top y (by simp) hy] at ih
    rw [← ih]
    refine one_congr hE gx fun v hp' hh => ?_
    exact h4 _ (agree_behind (.inl hpy) rfl hh) _

theorem bubble (T : TOK P tt) (hE : EOk P E) {x : Item'} {pre post : List Item'} {st : St} {a : Act} (sim : Sim w c st a) (g : Good tt base ops.toList (pre ++ x :: post) st.hp) (hp : ∀ y ∈ pre, pairS tt E (S.map (·.1)) ops.toList y.2.1 x.2.1 = true)
    (hk : opsP tt E S base ops.toList (pre ++ x :: post) st k = some r) : one tt E S base ops.toList x.2.1 x.2.2 st (fun st1 => opsP tt E S base ops.toList (pre ++ post) st1 k) = some r := by
  by_cases hc : calm (opCls tt x.2.1.op) = true
  · obtain ⟨st', k', h1, h2⟩ := find T hE post pre w c st a sim g hp hk
    obtain ⟨e, e1, e2, _, e4⟩ := one_nat hc h2
    rw [e4 st h1.symm, ← pull hE hc e1 e2 e4 post pre st _ g hp h1.symm]
    exact hk
  · refine pullW hE post pre st _ g (fun y hy => ⟨hp y hy, ?_⟩) hk
    have h0 := (pairS_spec (hp y hy)).2
    by_cases hfw : S.map (·.1) = some true ∧ farW ops.toList y.2.1 x.2.1 = true
    · exact .inr hfw
    refine .inl ?_
    have hy : clsIn tt E y.2.1.op = .P ∨ clsIn tt E y.2.1.op = .R ∨ clsIn tt E y.2.1.op = .A := by
      have hx : ¬ calm (clsIn tt E x.2.1.op) = true := by
        unfold clsIn
        split
        · cases plainOp E x.2.1.op <;> simp [calm]
        · exact hc
      rcases h0 with ⟨h0, _⟩ | ⟨hSo, ⟨_, h0, _⟩ | ⟨_, _, h0⟩ | h0 | ⟨_, _, h0⟩⟩ | ⟨_, _, h0, _⟩
      rotate_left
      · exact .inr (.inl h0)
      · exact (hc (by rw [h0]; rfl)).elim
      · exact (hfw ⟨hSo, h0⟩).elim
      · exact (hx (by rw [h0]; rfl)).elim
      · exact .inr (.inl h0)
      have h1 := (pair_spec h0).2
      rcases h1 with h1 | ⟨_, h1⟩ | ⟨h1, _⟩ | ⟨_, h1⟩ | ⟨h1, _⟩
      · revert h1 hx
        cases clsIn tt E x.2.1.op <;> cases clsIn tt E y.2.1.op <;> simp [clsOk, calm]
      · exact (hx (by rcases h1 with h | h <;> rw [h] <;> rfl)).elim
      · exact .inr (.inl h1)
      · exact (hx (by rw [h1]; rfl)).elim
      · exact .inr (.inl h1)
    have hne : opCls tt y.2.1.op ≠ .C := fun e => by
      unfold clsIn at hy
      rw [e] at hy
      cases hp2 : plainOp E y.2.1.op <;> simp [hp2] at hy
    rw [clsIn_ne hne] at hy
    rcases hy with h | h | h <;> rw [h] <;> rfl
end

theorem number_mem : ∀ (l : List Oper) (i id : Nat) (x : Item'), x ∈ number tt l i id → i ≤ x.1 ∧ x.1 < i + l.length ∧ l[x.1 - i]? = some x.2.1 ∧ id ≤ x.2.2 ∧ (isAlloc tt x.2.1 = true → x.2.2 < id + (l.filter (isAlloc tt)).length)
  | [], _, _, _, h => by simp [number] at h
  | o :: l, i, id, x, h => by
    simp only [number, List.mem_cons] at h
    rcases h with rfl | h
    · refine ⟨Nat.le_refl _, by simp, by simp, Nat.le_refl _, fun ha => ?_⟩
      simp only at ha
      simp only [List.filter_cons_of_pos ha, List.length_cons]
      omega
    · obtain ⟨h1, h2, h3, h4, h5⟩ := number_mem l _ _ x h
      have e : x.1 - i = (x.1 - (i + 1)) + 1 := by omega
      refine ⟨by omega, by simp; omega, by rw [e]; simpa using h3, ?_, fun ha => ?_⟩
      · split at h4 <;> omega
      · have := h5 ha
        by_cases ho : isAlloc tt o = true
        · rw [if_pos ho] at this
          rw [List.filter_cons_of_pos ho, List.length_cons]; omega
        · rw [if_neg ho] at this
          rw [List.filter_cons_of_neg ho]; omega

theorem number_pairs : ∀ (l : List Oper) (i id : Nat), (number tt l i id).Pairwise fun z z' => z.1 < z'.1 ∧ (isAlloc tt z.2.1 = true → isAlloc tt z'.2.1 = true → z.2.2 < z'.2.2)
  | [], _, _ => by simp [number]
  | o :: l, i, id => by
    simp only [number, List.pairwise_cons]
    refine ⟨fun z hz => ?_, number_pairs l _ _⟩
    obtain ⟨h1, _, _, h4, _⟩ := number_mem l _ _ z hz
    refine ⟨by omega, fun ha _ => ?_⟩
    rw [if_pos ha] at h4
    omega

theorem cap_le {f p : Oper → Bool} {o : Oper} {l : List Oper} (h : p o = false) : ∀ pre : List Oper, (((pre ++ o :: l).takeWhile p).filter f).length ≤ (pre.filter f).length
  | [] => by simp [h]
  | z :: pre => by
    rw [List.cons_append, List.takeWhile_cons]
    cases p z with
    | false => simp
    | true =>
      have := cap_le h pre (f := f) (p := p) (o := o) (l := l)
      simp only [if_true, List.filter_cons]
      cases f z
      · simpa using this
      · simpa using this
theorem number_caps {all : List Oper} {base : Nat} : ∀ (l pre : List Oper) (i id : Nat), all = pre ++ l → id = base + (pre.filter (isAlloc tt)).length → (number tt l i id).Pairwise fun z z' => isAlloc tt z'.2.1 = true → capOf tt all base z.2.1 ≤ z'.2.2
  | [], _, _, _, _, _ => by simp [number]
  | o :: l, pre, i, id, ha, hi => by
    simp only [number, List.pairwise_cons]
    refine ⟨fun z hz _ => ?_, number_caps l (pre ++ [o]) _ _ (by simp [ha]) ?_⟩
    · have h4 := (number_mem l _ _ z hz).2.2.2.1
      have := cap_le (f := isAlloc tt) (p := fun z => z.dst != o.dst) (o := o) (l := l) (by simp) pre
      unfold capOf
      rw [ha]
      split at h4 <;> omega
    · rw [List.filter_append, List.length_append, hi]
      by_cases ho : isAlloc tt o = true
      · rw [if_pos ho]; simp [ho]; omega
      · rw [if_neg ho]; simp [ho]

theorem number_all : ∀ (l : List Oper) (i id j : Nat), i ≤ j → j < i + l.length → ∃ x ∈ number tt l i id, x.1 = j
  | [], i, _, j, h1, h2 => by simp at h2; omega
  | o :: l, i, id, j, h1, h2 => by
    by_cases e : i = j
    · exact ⟨(i, o, id), by simp [number], e⟩
    · obtain ⟨x, hx, ex⟩ := number_all l (i + 1) (if isAlloc tt o then id + 1 else id) j (by omega) (by simp at h2; omega)
      exact ⟨x, by simp [number, hx], ex⟩

structure Left (ops : Array Oper) (b : List (List Nat)) (listed : Array Bool) (rem : List Item') : Prop where
  size : listed.size = ops.size
  sorted : rem.Pairwise fun z z' => z.1 < z'.1
  op : ∀ x ∈ rem, ops[x.1]? = some x.2.1
  un : ∀ x ∈ rem, listed.getD x.1 true = false
  all : ∀ i, listed.getD i true = false → ∃ x ∈ rem, x.1 = i
  closed : ∀ m, listed.getD m false = true → ∀ i ∈ b.getD m [], listed.getD i false = true

theorem listed_iff {listed : Array Bool} {i : Nat} (h : i < listed.size) : listed.getD i false = true ↔ ¬ listed.getD i true = false := by
  simp [h]

theorem any_sound (T : TOK P tt) {E : Env R} (hE : EOk P E) {S : Option (Bool × List Nat)} {base : Nat} {ops : Array Oper} {b : List (List Nat)} {k : St → Option R} {r : R} {Q : Exit → Act → World → Prop}
    (hpair : ∀ i j x y, i < j → ops[i]? = some x → ops[j]? = some y → i ∈ b.getD j [] ∨ pairS tt E (S.map (·.1)) ops.toList x y = true)
    (hback : ∀ (j : Nat) (y : Oper), ops[j]? = some y → ∀ e ∈ y.after, Region.binds .any e = true → e.on < j)
    (hclo : ∀ (j : Nat) (y : Oper), ops[j]? = some y → ∀ i ∈ b.getD j [], ∃ e ∈ y.after, Region.binds .any e = true ∧ (e.on = i ∨ i ∈ b.getD e.on [])) :
    ∀ (fuel : Nat) (listed : Array Bool) (rem : List Item') (w : World) (c : Cfg) (st : St) (a : Act), rem.length ≤ fuel → Left ops b listed rem → Good tt base ops.toList rem st.hp → Sim w c st a → opsP tt E S base ops.toList rem st k = some r →
      Goes w c st a k r (Q .normal) → wpAny P .any ops Q fuel listed a w := by
  intro fuel
  -- if nothing is ready, nothing is left
  have hnone : ∀ listed rem, Left ops b listed rem → Region.ready .any ops listed = [] → rem = [] := by
    intro listed rem lf hr
    cases rem with
    | nil => rfl
    | cons x rest =>
      have : x.1 ∈ Region.ready .any ops listed := by
        rw [mem_ready]
        refine ⟨lf.un x (by simp), x.2.1, lf.op x (by simp), fun e he hb => ?_⟩
        have hlt := hback x.1 x.2.1 (lf.op x (by simp)) e he hb
        have hx : x.1 < ops.size := (Array.getElem?_eq_some_iff.1 (lf.op x (by simp))).1
        rw [listed_iff (by rw [lf.size]; omega)]
        intro hun
        obtain ⟨y, hy, ey⟩ := lf.all _ hun
        rcases List.mem_cons.1 hy with rfl | hy
        · omega
        · have := (List.pairwise_cons.1 lf.sorted).1 y hy
          omega
      rw [hr] at this
      cases this
  induction fuel with
  | zero =>
    intro listed rem w c st a hl lf g sim hk go
    obtain rfl : rem = [] := List.eq_nil_of_length_eq_zero (by omega)
    refine ⟨?_, go a w st c sim (.refl _ _ _) rfl hk⟩
    cases hr : Region.ready .any ops listed with
    | nil => rfl
    | cons i l =>
      have hi : i ∈ Region.ready .any ops listed := by rw [hr]; simp
      obtain ⟨x, hx, _⟩ := lf.all i (mem_ready.1 hi).1
      cases hx
  | succ fuel ih =>
    intro listed rem w c st a hl lf g sim hk go
    refine ⟨fun hr => ?_, fun i hi => ?_⟩
    · obtain rfl := hnone _ _ lf hr
      exact go a w st c sim (.refl _ _ _) rfl hk
    · obtain ⟨hun, o, ho, hdone⟩ := mem_ready.1 hi
      obtain ⟨x, hx, rfl⟩ := lf.all i hun
      obtain ⟨pre, post, rfl⟩ := List.append_of_mem hx
      have hox := lf.op x (by simp)
      rw [hox] at ho
      cases ho
      have hsort := lf.sorted
      rw [List.pairwise_append, List.pairwise_cons] at hsort
      have hbx : ∀ j ∈ b.getD x.1 [], listed.getD j false = true := fun j hj => by
        obtain ⟨e, he, hb, hor⟩ := hclo x.1 x.2.1 hox j hj
        have hel := hdone e he hb
        rcases hor with rfl | hj
        · exact hel
        · exact lf.closed _ hel j hj
      have hpr : ∀ y ∈ pre, pairS tt E (S.map (·.1)) ops.toList y.2.1 x.2.1 = true := fun y hy => by
        rcases hpair y.1 x.1 y.2.1 x.2.1 (hsort.2.2 y hy x (by simp)) (lf.op y (by simp [hy])) hox with h1 | h1
        · have h2 := hbx _ h1
          have h3 := lf.un y (by simp [hy])
          have hy' : y.1 < ops.size := (Array.getElem?_eq_some_iff.1 (lf.op y (by simp [hy]))).1
          rw [listed_iff (by rw [lf.size]; exact hy')] at h2
          exact (h2 h3).elim
        · exact h1
      have hone := bubble T hE sim g hpr hk
      have hsize : x.1 < listed.size := by rw [lf.size]; exact (Array.getElem?_eq_some_iff.1 hox).1
      have lf' : Left ops b (listed.setIfInBounds x.1 true) (pre ++ post) := by
        have hs : List.Sublist (pre ++ post) (pre ++ x :: post) := List.Sublist.append (List.Sublist.refl _) (List.sublist_cons_self _ _)
        have hne : ∀ y ∈ pre ++ post, x.1 ≠ y.1 := fun y hy => by
          rcases List.mem_append.1 hy with hy | hy
          · have := hsort.2.2 y hy x (by simp); omega
          · have := hsort.2.1.1 y hy; omega
        refine ⟨by simp [lf.size], lf.sorted.sublist hs, fun y hy => lf.op y (hs.subset hy), fun y hy => ?_, fun j hj => ?_, fun m hm j hj => ?_⟩
        · rw [getD_set_ne true (hne y hy)]; exact lf.un y (hs.subset hy)
        · by_cases e : x.1 = j
          · subst e; simp [hsize] at hj
          · rw [getD_set_ne true e] at hj
            obtain ⟨y, hy, ey⟩ := lf.all j hj
            refine ⟨y, ?_, ey⟩
            rcases List.mem_append.1 hy with h1 | h1
            · exact List.mem_append_left _ h1
            · rcases List.mem_cons.1 h1 with rfl | h1
              · exact (e ey).elim
              · exact List.mem_append_right _ h1
        · refine getD_set_true ?_
          by_cases e : x.1 = m
          · subst e; exact hbx j hj
          · rw [getD_set_ne false e] at hm; exact lf.closed m hm j hj
      have hl' : (pre ++ post).length ≤ fuel := by simp at hl ⊢; omega
      unfold wpOp
      simp only [hox]
      rcases guardK_sound sim hone with ⟨hw, hone⟩ | ⟨hw, hone⟩
      · rw [if_pos hw]
        have hone : stepK tt E (drS tt S base x.2.1) x.2.2 x.2.1 st (fun st1 => opsP tt E S base ops.toList (pre ++ post) st1 k) = some r := by
          cases hS : okS tt E base S ops.toList x.2.1 (ev st.fr) st.hp with
          | true => rw [hS] at hone; exact hone
          | false => rw [hS] at hone; cases hone
        refine .inl (stepK_sound T hE hone sim (fun ha => (g.slot x (by simp) ha).2) fun d w' st' c' v sim' xt kp _ _ hk' => ?_)
        exact ih _ _ w' c' st' _ hl' lf' (g.step kp) sim' hk' fun a2 w2 st2 c2 s2 x2 d2 k2 => go a2 w2 st2 c2 s2 (xt.trans x2) (d2.trans (put_defers _ _ _)) k2
      · rw [if_neg (by simp [hw])]
        exact ih _ _ w c ⟨putF st.fr x.2.1.dst (.tuple []), st.hp⟩ (a.put x.2.1.dst undef) hl' lf' (g.step (.refl _ _ _)) ⟨sim.wf, put_rep sim.fr _ rep_undef⟩ hone fun a2 w2 st2 c2 s2 x2 d2 k2 => go a2 w2 st2 c2 s2 x2 (d2.trans (put_defers _ _ _)) k2

theorem drawn_ext (n : Nat) : Ext w h c { w with drawn := n } h c where
  os := rfl
  tape := rfl
  output := rfl
  size := Nat.le_refl _
  used := fun _ hi => hi
  same := fun i hi hd => ⟨sim_refl (live_of hi.2 hd) (fun _ _ _ => .inr trivial), rfl, rfl⟩
  cell := fun _ _ _ _ => rfl
  block := fun _ _ _ => rfl
  owns := fun _ _ _ ho => ho
  ext := rfl
  arr := fun b arr e fz hb => ⟨arr, fz, hb, rfl⟩

theorem drawn_wf (wf : WF w h c) (n : Nat) : WF { w with drawn := n } h c where
  lay := wf.lay_ext (drawn_ext n)
  disj := wf.disj
  extlt := wf.extlt
  obj := fun i hi => by
    by_cases hl : (h.at i).live
    · exact (wf.obj i hi).keep (drawn_ext n) (fun _ _ => rfl) rfl rfl
    · have h0 : h.at i = .free ∨ h.at i = .dead := by revert hl; cases h.at i <;> simp [AObj.live]
      rcases h0 with h0 | h0 <;> rw [h0] <;> trivial
  inj := wf.inj

theorem orEdges_bit (M : List Nat) (i : Nat) : ∀ (es : List Nat) (m : Nat), (es.foldl (fun m e => m ||| (Nat.pow 2 e ||| M.getD e 0)) m).testBit i = true → m.testBit i = true ∨ ∃ e ∈ es, e = i ∨ (M.getD e 0).testBit i = true
  | [], m, h => .inl h
  | e :: es, m, h => by
    rcases orEdges_bit M i es _ h with h | ⟨x, hx, h⟩
    · rw [Nat.testBit_or, Nat.testBit_or, Bool.or_eq_true, Bool.or_eq_true] at h
      rcases h with h | h | h
      · exact .inl h
      · have h' : (2 ^ e).testBit i = true := h
        rw [Nat.testBit_two_pow] at h'
        exact .inr ⟨e, by simp, .inl (of_decide_eq_true h')⟩
      · exact .inr ⟨e, by simp, .inr h⟩
    · exact .inr ⟨x, by simp [hx], h⟩

theorem beforeL_mem {n j i : Nat} {M : List Nat} (hj : j < n) : i ∈ (beforeL n M).getD j [] ↔ i < n ∧ (M.getD j 0).testBit i = true := by
  unfold beforeL
  rw [List.getD_eq_getElem?_getD, List.getElem?_map, List.getElem?_range hj]
  simp

theorem draw_sound (T : TOK P tt) (hm : P.follows .mixedOrders = true) {E : Env R} (hE : EOk P E) {id : Nat} {ops : Array Oper} {k : St → Option R} {r : R} {Q : Exit → Act → World → Prop} {st : St} {a : Act}
    (hk : regionK tt E ops.toList true st k = some r) (sim : Sim w c st a) (go : Goes w c st a k r (Q .normal)) : (Code.region id ops true).wp P Q a w := by
  obtain ⟨S, hd, hk⟩ : ∃ S : Option (Bool × List Nat), drawOk tt E (S.map (·.1)) ops.toList = true ∧ opsP tt E S st.hp.length ops.toList (number tt ops.toList 0 st.hp.length) ⟨st.fr, st.hp ++ List.replicate (ops.toList.filter (isAlloc tt)).length .free⟩ k = some r := by
    simp only [regionK, if_true] at hk
    split at hk
    · rename_i hd
      rw [opsK_eq _ 0] at hk
      exact ⟨none, drawN_ok hd, hk⟩
    · split at hk
      · rename_i hd
        rw [opsS_eq _ 0] at hk
        exact ⟨some (true, avoidM tt ops.toList st.fr), hd, hk⟩
      · split at hk
        · rename_i hd
          rw [opsS_eq _ 0] at hk
          exact ⟨some (false, storesAt tt _ ops.toList st.fr), hd, hk⟩
        · cases hk
  refine wp_region_any hm ?_
  have hall : ∀ j, j < ops.size → ((List.range j).all (fun i => ((beforeM ops.toList).getD j 0).testBit i || pairS tt E (S.map (·.1)) ops.toList (ops.toList.getD i default) (ops.toList.getD j default)) = true ∧
      (bindsOf (ops.toList.getD j default)).all (fun i => Nat.blt i j) = true ∧ (beforeM ops.toList).getD j 0 = orEdges (beforeM ops.toList) (bindsOf (ops.toList.getD j default))) := by
    intro j hj
    unfold drawOk at hd
    simp only at hd
    rw [List.all_eq_true] at hd
    have := hd j (by simpa using hj)
    simp only [Bool.and_eq_true] at this
    exact ⟨this.1.1, this.1.2, Nat.eq_of_beq_eq_true this.2⟩
  have hget : ∀ (j : Nat) (y : Oper), ops[j]? = some y → ops.toList.getD j default = y ∧ j < ops.size := fun j y hy => by
    refine ⟨?_, (Array.getElem?_eq_some_iff.1 hy).1⟩
    rw [List.getD, Array.getElem?_toList, hy]; rfl
  have hbind : ∀ (y : Oper) (n : Nat), n ∈ bindsOf y ↔ ∃ e ∈ y.after, Region.binds .any e = true ∧ e.on = n := by
    intro y n
    simp [bindsOf, List.mem_map, List.mem_filter, and_assoc]
  have sim' : Sim { w with drawn := w.drawn + 1 } c ⟨st.fr, st.hp ++ List.replicate (ops.toList.filter (isAlloc tt)).length .free⟩ a :=
    ⟨drawn_wf (slots_wf sim.wf _) _, (sim.fr.mono (slots_ext _)).mono (drawn_ext _)⟩
  refine any_sound T hE (S := S) (base := st.hp.length) (b := beforeL ops.size (beforeM ops.toList)) (fun i j x y hij hx hy => ?_) (fun j y hy e he hb => ?_) (fun j y hy i hi => ?_) ops.size _ (number tt ops.toList 0 st.hp.length) _ c _ a ?_ ?_ ?_ sim' hk ?_
  · obtain ⟨h1, h2⟩ := hget i x hx
    obtain ⟨h3, h4⟩ := hget j y hy
    have := List.all_eq_true.1 (hall j h4).1 i (by simpa using hij)
    rw [h1, h3, Bool.or_eq_true] at this
    rcases this with h | h
    · exact .inl ((beforeL_mem h4).2 ⟨h2, h⟩)
    · exact .inr h
  · obtain ⟨h3, h4⟩ := hget j y hy
    have := (hall j h4).2.1
    rw [h3, List.all_eq_true] at this
    simpa using this e.on ((hbind y _).2 ⟨e, he, hb, rfl⟩)
  · obtain ⟨h3, h4⟩ := hget j y hy
    have heq := (hall j h4).2.2
    have hlt := (hall j h4).2.1
    rw [h3] at heq hlt
    obtain ⟨hin, hbit⟩ := (beforeL_mem h4).1 hi
    rw [heq] at hbit
    unfold orEdges at hbit
    rcases orEdges_bit _ i _ _ hbit with h | ⟨n, hn, h⟩
    · simp at h
    · obtain ⟨e, he, hb, rfl⟩ := (hbind y n).1 hn
      refine ⟨e, he, hb, h.imp (fun h => h) fun h => ?_⟩
      have := List.all_eq_true.1 hlt e.on hn
      have hon : e.on < j := by simpa using this
      exact (beforeL_mem (Nat.lt_trans hon h4)).2 ⟨hin, h⟩
  · have : ∀ (l : List Oper) (i id : Nat), (number tt l i id).length = l.length := by
      intro l
      induction l with
      | nil => intros; rfl
      | cons o l ih => intros; simp [number, ih]
    rw [this]; simp
  · refine ⟨by simp, (number_pairs _ _ _).imp fun h => h.1, fun x hx => ?_, fun x hx => ?_, fun i hi => ?_, fun m hm => ?_⟩
    · obtain ⟨_, _, h3, _⟩ := number_mem _ _ _ x hx
      simpa using h3
    · obtain ⟨_, h2, _⟩ := number_mem _ _ _ x hx
      simp at h2
      simp [h2]
    · have : i < ops.size := by
        rcases Nat.lt_or_ge i ops.size with h | h
        · exact h
        · simp [Nat.not_lt.2 h] at hi
      exact number_all _ 0 _ i (Nat.zero_le _) (by simpa using this)
    · rcases Nat.lt_or_ge m ops.size with h | h
      · simp [h] at hm
      · simp [Nat.not_lt.2 h] at hm
  · refine ⟨fun z hz ha => (number_mem _ _ _ z hz).2.2.2.2 ha, number_caps ops.toList [] 0 _ rfl (by simp), fun z hz ha => ?_, (number_pairs _ _ _).imp fun h => h.2⟩
    obtain ⟨_, _, _, h4, h5⟩ := number_mem _ _ _ z hz
    have h5 := h5 ha
    refine ⟨h4, by simp; omega, ?_⟩
    rw [at_append_right h4]
    have : z.2.2 - st.hp.length < (ops.toList.filter (isAlloc tt)).length := by omega
    simp [Heap.at, List.getD, List.getElem?_replicate, this]
  · exact fun a2 w2 st2 c2 s2 x2 d2 k2 => go a2 w2 st2 c2 s2 (((slots_ext _).trans (drawn_ext _)).trans x2) d2 k2
end
end Go.Yard

