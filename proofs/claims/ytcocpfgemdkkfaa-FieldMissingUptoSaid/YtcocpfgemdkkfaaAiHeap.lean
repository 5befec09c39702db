/-
  The abstract interpreter, part 13: objects that come, and stay. Own work.
-/
import Derived.Test.YtcocpfgemdkkfaaAiOpR
import Derived.Test.YtcocpfgemdkkfaaAiDec
namespace Go.Yard
open Go.RowKit

section
variable {P : Program} {tt : TTab} {w w' : World} {h h' : Heap} {c c' : Cfg}

theorem at_set (h : Heap) (i j : Nat) (o : AObj) : Heap.at (h.set i o) j = if i = j ∧ i < h.length then o else h.at j := by
  unfold Heap.at
  simp only [List.getD, List.getElem?_set]
  by_cases hij : i = j
  · subst hij
    by_cases hl : i < h.length
    · simp [hl]
    · simp [hl]
  · simp [hij]

theorem at_set_ne {i j : Nat} (o : AObj) (hij : i ≠ j) : Heap.at (h.set i o) j = h.at j := by rw [at_set]; simp [hij]
theorem at_set_eq {i : Nat} (o : AObj) (hi : i < h.length) : Heap.at (h.set i o) i = o := by rw [at_set]; simp [hi]

def Cfg.put (c : Cfg) (i : Nat) (b : Option Nat) (o : Nat) : Cfg := ⟨fun j => if j = i then b else c.blk j, fun j => if j = i then o else c.off j, c.ext⟩
theorem put_blk_ne {i j : Nat} (b : Option Nat) (o : Nat) (h : j ≠ i) : (c.put i b o).blk j = c.blk j := by simp [Cfg.put, h]
theorem put_off_ne {i j : Nat} (b : Option Nat) (o : Nat) (h : j ≠ i) : (c.put i b o).off j = c.off j := by simp [Cfg.put, h]
theorem put_blk_eq (i : Nat) (b : Option Nat) (o : Nat) : (c.put i b o).blk i = b := by simp [Cfg.put]
theorem put_off_eq (i : Nat) (b : Option Nat) (o : Nat) : (c.put i b o).off i = o := by simp [Cfg.put]

theorem live_of {o : AObj} (h1 : o ≠ .free) (h2 : o ≠ .dead) : o.live := by cases o <;> simp_all [AObj.live]
theorem not_live_free : ¬ AObj.live .free := fun h => h
theorem live_ne_dead {o : AObj} (h : o.live) : o ≠ .dead := by rintro rfl; exact h
theorem live_ne_free {o : AObj} (h : o.live) : o ≠ .free := by rintro rfl; exact h

theorem lt_heap {b : Nat} {o : Obj} (h : w.heap[b]? = some o) : b < w.heap.size := (Array.getElem?_eq_some_iff.1 h).1

theorem ObjOK.lt {i b : Nat} {o : AObj} (ho : ObjOK w h c i o) (hl : o.live) (hb : c.blk i = some b) : b < w.heap.size := by
  cases o <;> simp only [AObj.live] at hl <;> simp only [ObjOK] at ho
  · obtain ⟨b', arr, e, h1, h2, _⟩ := ho
    rw [h1] at hb; cases hb; exact lt_heap h2
  · rcases ho with ⟨h1, _⟩ | ⟨b', arr, e, fz, h1, h2, _⟩
    · rw [h1] at hb; cases hb
    · rw [h1] at hb; cases hb; exact lt_heap h2
  · rcases ho with h1 | ⟨b', arr, e, fz, h1, h2, _⟩
    · rw [h1] at hb; cases hb
    · rw [h1] at hb; cases hb; exact lt_heap h2
  · obtain ⟨b', bs, h1, h2, _⟩ := ho
    rw [h1] at hb; cases hb; exact lt_heap h2

/-- What is not touched stays as it is. -/
theorem ObjOK.keep (x : Ext w h c w' h' c') {i : Nat} {o : AObj} (ho : ObjOK w h c i o) (hb : ∀ b, c.blk i = some b → w'.heap[b]? = w.heap[b]?) (e1 : c'.blk i = c.blk i) (e2 : c'.off i = c.off i) :
    ObjOK w' h' c' i o := by
  have hfz : ∀ b x, c.blk i = some b → w'.frozen? ⟨b, x, none⟩ = w.frozen? ⟨b, x, none⟩ := fun b x h => by simp only [World.frozen?, hb b h]
  cases o <;> simp only [ObjOK] at ho ⊢
  · obtain ⟨b, arr, e, h1, h2, h3⟩ := ho
    exact ⟨b, arr, e, e1 ▸ h1, (hb b h1).trans h2, h3.mono x⟩
  · rcases ho with ⟨h1, h2⟩ | ⟨b, arr, e, fz, h1, h2, h3, h4, h5⟩
    · exact .inl ⟨e1 ▸ h1, h2⟩
    · refine .inr ⟨b, arr, e, fz, e1 ▸ h1, (hb b h1).trans h2, by rw [e2]; exact h3, fun x hx => by rw [hfz b x h1]; exact h4 x hx, fun n j y v hy hv => ?_⟩
      obtain ⟨d, g1, g2⟩ := h5 n j y v hy hv
      exact ⟨d, by rw [e2]; exact g1, g2.mono x⟩
  · rcases ho with h1 | ⟨b, arr, e, fz, h1, h2, h3, h4⟩
    · exact .inl (e1 ▸ h1)
    · exact .inr ⟨b, arr, e, fz, e1 ▸ h1, (hb b h1).trans h2, by rw [e2]; exact h3, fun x g1 g2 => by rw [hfz b x h1]; exact h4 x (by rw [← e2]; exact g1) g2⟩
  · obtain ⟨b, bs, h1, h2, h3⟩ := ho
    exact ⟨b, bs, e1 ▸ h1, (hb b h1).trans h2, h3⟩

theorem blocks_cell {b x : Nat} (h : w'.heap[b]? = w.heap[b]?) : w'.cell? ⟨b, x, none⟩ = w.cell? ⟨b, x, none⟩ := by simp only [World.cell?, h]

/-- A new object where there was none; the old blocks stay. -/
theorem new_ext (hb : Below w.heap.size w w') {id : Nat} (hf : h.at id = .free) (ob : AObj) {nb : Option Nat} {no : Nat} (hn : ∀ b, nb = some b → w.heap.size ≤ b) :
    Ext w h c w' (h.set id ob) (c.put id nb no) where
  os := hb.os
  tape := hb.tape
  output := hb.output
  size := hb.size
  used := fun i hi => by
    have hne : id ≠ i := by rintro rfl; exact hi.2 hf
    exact ⟨by simpa using hi.1, by rw [at_set_ne _ hne]; exact hi.2⟩
  same := fun i hi hd => by
    have hne : id ≠ i := by rintro rfl; exact hi.2 hf
    rw [at_set_ne _ hne] at hd ⊢
    refine ⟨?_, put_blk_ne _ _ (Ne.symm hne), put_off_ne _ _ (Ne.symm hne)⟩
    have h2 := hi.2
    revert hd h2
    cases h.at i <;> simp [AObj.sim]
  cell := fun b x hx _ => blocks_cell (hb.block b hx)
  block := fun b hx _ => hb.block b hx
  owns := fun b x hx ho => by
    obtain ⟨i, f, h1, h2, h3⟩ := ho
    by_cases hne : id = i
    · subst hne
      rw [put_blk_eq] at h1
      have := hn b h1
      omega
    · rw [put_blk_ne _ _ (Ne.symm hne)] at h1
      rw [at_set_ne _ hne, put_off_ne _ _ (Ne.symm hne)] at h2
      exact ⟨i, f, h1, h2, h3⟩
  ext := rfl
  arr := fun b arr e fz hx => ⟨arr, fz, by rw [hb.block b (lt_heap hx)]; exact hx, rfl⟩

theorem new_wf (wf : WF w h c) (hb : Below w.heap.size w w') {id : Nat} (hid : id < h.length) (hf : h.at id = .free) {ob : AObj} {nb : Option Nat} {no : Nat} (hn : ∀ b, nb = some b → w.heap.size ≤ b)
    (hob : ObjOK w' (h.set id ob) (c.put id nb no) id ob) : WF w' (h.set id ob) (c.put id nb no) := by
  have x := new_ext (h := h) (c := c) hb hf ob (no := no) hn
  constructor
  · intro b y ho he
    have hlt : b < w.heap.size := wf.extlt b y he
    exact wf.disj b y (x.owns b y hlt ho) he
  · intro b y he
    exact Nat.lt_of_lt_of_le (wf.extlt b y he) hb.size
  · intro i hi
    by_cases hne : id = i
    · subst hne; rw [at_set_eq _ hid]; exact hob
    · rw [at_set_ne _ hne]
      by_cases hl : (h.at i).live
      · have ho := wf.obj i (by simpa using hi)
        exact ho.keep x (fun b hbk => hb.block b (ho.lt hl hbk)) (put_blk_ne _ _ (Ne.symm hne)) (put_off_ne _ _ (Ne.symm hne))
      · revert hl; cases h.at i <;> simp [AObj.live, ObjOK]
  · intro i j b hi hj h1 h2
    have hlt : ∀ k, id ≠ k → (Heap.at (h.set id ob) k).live → (c.put id nb no).blk k = some b → b < w.heap.size := by
      intro k hne hl hbk
      rw [at_set_ne _ hne] at hl
      rw [put_blk_ne _ _ (Ne.symm hne)] at hbk
      exact (wf.obj k (Heap.at_live rfl (live_ne_dead hl))).lt hl hbk
    by_cases h3 : id = i <;> by_cases h4 : id = j
    · exact h3.symm.trans h4
    · subst h3
      rw [put_blk_eq] at h1
      have := hn b h1
      have := hlt j h4 hj h2
      omega
    · subst h4
      rw [put_blk_eq] at h2
      have := hn b h2
      have := hlt i h3 hi h1
      omega
    · rw [at_set_ne _ h3] at hi
      rw [at_set_ne _ h4] at hj
      rw [put_blk_ne _ _ (Ne.symm h3)] at h1
      rw [put_blk_ne _ _ (Ne.symm h4)] at h2
      exact wf.inj i j b hi hj h1 h2

/-! ### cells read as an element -/
theorem asSl_sound {T : Ty} {v : V} {d : Value} (r : Rep w h c v d) {l : List T.den} (hs : asSl T v = some l) : Rep w h c (.sl T l .no) d := by
  unfold asSl at hs
  split at hs
  · cases hs
    cases r
    exact .sl (fun _ _ => undef) (Nat.le_refl _) (by unfold mx; exact Nat.zero_le _) (fun i j hi => by simp at hi) (fun i j x v hx => by simp at hx) (by simp) (by simp)
  · rename_i T' l' t
    split at hs
    · rename_i e
      subst e
      cases hs
      cases r with
      | sl f hcap hmx hc hr hnil hown => exact .sl f hcap hmx hc hr (by simp) (by simp)
    · cases hs
  · cases hs

theorem Wk.rep {u v : V} {d : Value} (k : Wk u v) (r : Rep w h c u d) : Rep w h c v d := by
  rcases k with rfl | ⟨T, l, rfl, e⟩
  · exact r
  · exact asSl_sound r e

theorem WkL.rep {us vs : List V} (k : WkL us vs) : ∀ {ds : List Value}, RepL w h c us ds → RepL w h c vs ds := by
  induction k with
  | nil => exact fun r => r
  | cons a _ ih =>
    intro ds r
    cases ds with
    | nil => have := r.1; simp at this
    | cons d ds => exact .cons (a.rep r.head) (ih r.tail)

/-- Cells read as an element: they are that element's. -/
theorem dec_rep {T : Ty} {cs : List V} {x : T.den} (hx : T.dec cs = some x) {ds : List Value} (r : RepL w h c cs ds) : RepL w h c (T.cells x) ds := (dec_wk T hx).rep r
end
end Go.Yard
