/-
  The abstract interpreter, part 14: allocations. Own work.
-/
import Derived.Test.YtcocpfgemdkkfaaAiHeap
import Derived.Laws.MakeOwn
namespace Go.Yard
open Go.RowKit

section
variable {P : Program} {tt : TTab} {w : World} {h : Heap} {c : Cfg} {R : Type}

/-- What an allocation leaves. -/
def Allocs (P : Program) (w : World) (h : Heap) (c : Cfg) (s : Sem Value) (ob : AObj) (mk : Nat → V) : Prop :=
  ∀ id, id < h.length → h.at id = .free → ∃ v' w' c', s.run P w = .ok v' w' ∧ WF w' (h.set id ob) c' ∧ Ext w h c w' (h.set id ob) c' ∧ Rep w' (h.set id ob) c' (mk id) v'

theorem below_alloc (w : World) (o : Obj) : Below w.heap.size w (w.alloc o) := (Below.refl _ _).alloc (Nat.le_refl _) o

theorem used_set {id : Nat} (hid : id < h.length) {ob : AObj} (ho : ob ≠ .free) : Used (h.set id ob) id := ⟨by simpa using hid, by rw [at_set_eq _ hid]; exact ho⟩

/-- A block of cells of ours. -/
theorem alloc_cells (wf : WF w h c) {cs : List V} {ds : Array Value} (r : RepL w h c cs ds.toList) (e : TypeId) {s : Sem Value} (hrun : s.run P w = .ok (.pointer (some ⟨w.heap.size, 0, none⟩)) (w.alloc (.cells ds e))) :
    Allocs P w h c s (.cells cs) fun i => .ptr i 0 := by
  intro id hid hf
  have hb := below_alloc w (.cells ds e)
  have hn : ∀ b, some w.heap.size = some b → w.heap.size ≤ b := by intro b hb; cases hb; exact Nat.le_refl _
  have x := new_ext (h := h) (c := c) hb hf (.cells cs) (no := 0) hn
  have hob : ObjOK (w.alloc (.cells ds e)) (h.set id (.cells cs)) (c.put id (some w.heap.size) 0) id (.cells cs) := by
    refine ⟨w.heap.size, ds, e, put_blk_eq _ _ _, heap_alloc_new w _, r.mono x⟩
  exact ⟨_, _, _, hrun, new_wf wf hb hid hf hn hob, x, .ptr (used_set hid (by simp)) ⟨w.heap.size, rfl, fun _ => put_blk_eq _ _ _⟩⟩

theorem chunks_get (n : Nat) : ∀ (m : Nat) (l : List V) (i : Nat), i < m → (chunks n m l)[i]? = some ((l.drop (i * n)).take n)
  | m + 1, l, 0, _ => by simp [chunks]
  | m + 1, l, i + 1, h => by
    simp only [chunks, List.getElem?_cons_succ]
    rw [chunks_get n m (l.drop n) i (by omega), List.drop_drop]
    congr 3
    rw [Nat.add_mul]; omega

theorem chunks_len (n : Nat) : ∀ (m : Nat) (l : List V), (chunks n m l).length = m
  | 0, _ => rfl
  | m + 1, l => by simp [chunks, chunks_len n m]

theorem decAll_len {T : Ty} : ∀ {css : List (List V)} {l : List T.den}, decAll T css = some l → l.length = css.length
  | [], l, hd => by simp [decAll] at hd; subst hd; rfl
  | c :: cs, l, hd => by
    simp only [decAll] at hd
    split at hd
    · cases hd; rename_i h1 h2; simp [decAll_len h2]
    · cases hd

theorem decAll_get {T : Ty} : ∀ {css : List (List V)} {l : List T.den}, decAll T css = some l → ∀ (i : Nat) (x : T.den), l[i]? = some x → ∃ cs, css[i]? = some cs ∧ T.dec cs = some x
  | [], l, hd, i, x, hx => by simp [decAll] at hd; subst hd; simp at hx
  | c :: cs, l, hd, i, x, hx => by
    simp only [decAll] at hd
    split at hd
    · cases hd
      rename_i y ys h1 h2
      cases i with
      | zero => simp at hx; subst hx; exact ⟨c, rfl, h1⟩
      | succ i => simp at hx; exact decAll_get h2 i x hx
    · cases hd

/-- Cells that are read as elements: each element's own. -/
theorem elems_rep {T : Ty} {n : Nat} {cs : List V} {ds : List Value} (r : RepL w h c cs ds) {l : List T.den} (hd : decAll T (chunks T.sz n cs) = some l) :
    ∀ (i j : Nat) (x : T.den) (v : V), l[i]? = some x → (T.cells x)[j]? = some v → Rep w h c v (ds.getD (i * T.sz + j) undef) := by
  intro i j x v hx hv
  have hl := decAll_len hd
  rw [chunks_len] at hl
  have hi : i < l.length := (List.getElem?_eq_some_iff.1 hx).1
  obtain ⟨cs', h1, h2⟩ := decAll_get hd i x hx
  rw [chunks_get _ _ _ _ (by omega)] at h1
  cases h1
  have rr := dec_rep h2 ((r.drop (i * T.sz)).take T.sz)
  have hj : j < (T.cells x).length := (List.getElem?_eq_some_iff.1 hv).1
  rw [T.cells_len] at hj
  have hlen := rr.1
  rw [T.cells_len] at hlen
  have hd' : ((ds.drop (i * T.sz)).take T.sz)[j]? = some (((ds.drop (i * T.sz)).take T.sz)[j]'(by omega)) := List.getElem?_eq_getElem _
  have := rr.2 j v _ hv hd'
  have e : ds.getD (i * T.sz + j) undef = ((ds.drop (i * T.sz)).take T.sz)[j]'(by omega) := by
    rw [List.getElem?_take, if_pos hj, List.getElem?_drop] at hd'
    simp [List.getD, hd']
  rw [e]; exact this

theorem madeCells_add (z : Array Value) (m : Nat) : (madeCells z (z.size + m)).toList = z.toList ++ (madeCells z m).toList := by
  simp only [madeCells, Array.toList_map, Array.toList_range, List.range_add, List.map_append, List.map_map]
  congr 1
  · apply List.ext_getElem
    · simp
    · intro i h1 h2
      simp only [List.length_map, List.length_range] at h1
      simp [Nat.mod_eq_of_lt h1, getElem!_pos z i h1]
  · apply List.map_congr_left
    intro k _
    simp

theorem made_rep {zs : List V} {z : Array Value} (r : RepL w h c zs z.toList) : ∀ n : Nat, RepL w h c (List.replicate n zs).flatten (madeCells z (n * z.size)).toList
  | 0 => by simp [madeCells]; exact .nil
  | n + 1 => by
    have e : (n + 1) * z.size = z.size + n * z.size := by rw [Nat.add_mul]; omega
    rw [e, madeCells_add z _, List.replicate_succ, List.flatten_cons]
    exact r.append (made_rep r n)

theorem not_owned_new (wf : WF w h c) {id : Nat} (ob : AObj) (no x : Nat) (hx : ∀ f, ob.from_ no = some f → ¬ f ≤ x) (hid : id < h.length) : Free (h.set id ob) (c.put id (some w.heap.size) no) w.heap.size x := by
  refine ⟨?_, fun he => Nat.lt_irrefl _ (wf.extlt _ _ he)⟩
  rintro ⟨i, f, h1, h2, h3⟩
  by_cases hne : id = i
  · subst hne
    rw [at_set_eq _ hid, put_off_eq] at h2
    exact hx f h2 h3
  · rw [at_set_ne _ hne, put_off_ne _ _ (Ne.symm hne)] at h2
    rw [put_blk_ne _ _ (Ne.symm hne)] at h1
    have hl : (h.at i).live := by revert h2; cases h.at i <;> simp [AObj.from_, AObj.live]
    have := (wf.obj i (Heap.at_live rfl (live_ne_dead hl))).lt hl h1
    omega

/-- A new slice: its elements read as typed data. -/
theorem alloc_slice (wf : WF w h c) {T : Ty} {n : Nat} {cs : List V} {ds : Array Value} (r : RepL w h c cs ds.toList) {l : List T.den} (hd : decAll T (chunks T.sz n cs) = some l) (hsz : ds.size = n * T.sz) (hn : n ≤ mx)
    (e : TypeId) {s : Sem Value} (hrun : s.run P w = .ok (.slice (some ⟨w.heap.size, 0, none⟩) n n) (w.alloc (.cells ds e))) :
    Allocs P w h c s .tok fun i => .sl T l (.own i) := by
  intro id hid hf
  have hb := below_alloc w (.cells ds e)
  have hnb : ∀ b, some w.heap.size = some b → w.heap.size ≤ b := by intro b hb; cases hb; exact Nat.le_refl _
  have x := new_ext (h := h) (c := c) hb hf .tok (no := n * T.sz) hnb
  have hl : l.length = n := by rw [decAll_len hd, chunks_len]
  have hnew := heap_alloc_new w (.cells ds e)
  have hob : ObjOK (w.alloc (.cells ds e)) (h.set id .tok) (c.put id (some w.heap.size) (n * T.sz)) id .tok := by
    refine .inr ⟨w.heap.size, ds, e, (0, 0), put_blk_eq _ _ _, hnew, by rw [put_off_eq]; omega, fun y h1 h2 => ?_⟩
    rw [put_off_eq] at h1; omega
  have hel := elems_rep (r.mono x) hd
  refine ⟨_, _, _, hrun, new_wf wf hb hid hf hnb hob, x, ?_⟩
  subst hl
  refine .sl (fun i j => ds.toList.getD (i * T.sz + j) undef) (Nat.le_refl _) hn (fun i j hi hj => ⟨w.heap.size, 0, rfl, ?_, ?_⟩) hel (by simp) (fun i he => ?_)
  · have hlt : i * T.sz + j < ds.size := by
      have := Nat.mul_le_mul_right T.sz hi
      rw [Nat.succ_mul] at this; omega
    rw [Nat.zero_add, cell_of_row _ _ _ _ _ _ hnew]
    simp [List.getD, hlt]
  · refine not_owned_new wf _ _ _ (fun f hf' => ?_) hid
    simp [AObj.from_] at hf'
    have := Nat.mul_le_mul_right T.sz hi
    rw [Nat.succ_mul] at this; omega
  · cases he
    refine ⟨used_set hid (by simp), fun _ => .inr ⟨w.heap.size, 0, ds, e, (0, 0), put_blk_eq _ _ _, rfl, by rw [put_off_eq, Nat.zero_add], hnew, by omega⟩⟩

/-- A new slice whose elements are kept as they are. -/
theorem alloc_vslice (wf : WF w h c) {n sz : Nat} {cs : List V} {ds : Array Value} (r : RepL w h c cs ds.toList) (hsz : cs.length = n * sz) (hn : n ≤ mx)
    (e : TypeId) {s : Sem Value} (hrun : s.run P w = .ok (.slice (some ⟨w.heap.size, 0, none⟩) n n) (w.alloc (.cells ds e))) :
    Allocs P w h c s .dead fun _ => .vsl n cs := by
  intro id hid hf
  have hb := below_alloc w (.cells ds e)
  have hnb : ∀ b, some w.heap.size = some b → w.heap.size ≤ b := by intro b hb; cases hb; exact Nat.le_refl _
  have x := new_ext (h := h) (c := c) hb hf .dead (no := 0) hnb
  have hnew := heap_alloc_new w (.cells ds e)
  refine ⟨_, _, _, hrun, new_wf wf hb hid hf hnb trivial, x, ?_⟩
  have r' := r.mono x
  have hl := r.1
  refine .vsl hsz hn (fun j => ds.toList.getD j undef) (fun j hj => ⟨w.heap.size, 0, rfl, ?_, ?_⟩) (fun j v hv => ?_)
  · rw [Nat.zero_add, cell_of_row _ _ _ _ _ _ hnew]
    have hlt : j < ds.size := by simp at hl; omega
    simp [List.getD, hlt]
  · exact not_owned_new wf _ _ _ (fun f hf' => by simp [AObj.from_] at hf') hid
  · have hj : j < cs.length := (List.getElem?_eq_some_iff.1 hv).1
    have hlt : j < ds.toList.length := by omega
    refine r'.2 j v _ hv ?_
    simp only [List.getD, List.getElem?_eq_getElem hlt, Option.getD_some]

end
end Go.Yard
