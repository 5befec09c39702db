/-
  The abstract interpreter, part 18: append. Own work.
-/
import Derived.Test.YtcocpfgemdkkfaaAiApp
namespace Go.Yard
open Go.RowKit

section
variable {P : Program} {tt : TTab} {w w' : World} {h : Heap} {c : Cfg} {R : Type}

theorem owns_dead {i b x : Nat} (ho : Owns (h.set i .dead) c b x) : Owns h c b x := by
  obtain ⟨j, f, g1, g2, g3⟩ := ho
  rw [at_set] at g2
  split at g2
  · simp [AObj.from_] at g2
  · exact ⟨j, f, g1, g2, g3⟩

/-- What was ours is let go. -/
theorem kill_ext (i : Nat) : Ext w h c w (h.set i .dead) c where
  os := rfl
  tape := rfl
  output := rfl
  size := Nat.le_refl _
  used := fun j hj => ⟨by simpa using hj.1, by rw [at_set]; split; simp; exact hj.2⟩
  same := fun j hj hd => by
    rw [at_set] at hd ⊢
    split
    · rename_i hc; rw [if_pos hc] at hd; exact absurd rfl hd
    · rename_i hc
      rw [if_neg hc] at hd
      refine ⟨?_, rfl, rfl⟩
      have h2 := hj.2
      revert hd h2
      cases h.at j <;> simp [AObj.sim]
  cell := fun _ _ _ _ => rfl
  block := fun _ _ _ => rfl
  owns := fun b x _ ho => owns_dead ho
  ext := rfl
  arr := fun b arr e fz hb => ⟨arr, fz, hb, rfl⟩

theorem kill_wf (wf : WF w h c) (i : Nat) : WF w (h.set i .dead) c where
  disj := fun b x ho => wf.disj b x (owns_dead ho)
  extlt := wf.extlt
  obj := fun j hj => by
    rw [at_set]
    split
    · trivial
    · exact (wf.obj j (by simpa using hj)).keep (kill_ext i) (fun _ _ => rfl) rfl rfl
  inj := fun j k b hj hk h1 h2 => by
    have key : ∀ j, (Heap.at (h.set i .dead) j).live → (h.at j).live := fun j hj => by
      rw [at_set] at hj
      split at hj
      · exact hj.elim
      · exact hj
    exact wf.inj j k b (key j hj) (key k hk) h1 h2

theorem below_drew_alloc (w : World) (o : Obj) : Below w.heap.size w (w.drew.alloc o) := ((Below.refl _ _).drew).alloc (Nat.le_refl _) o

/-- Behind an append that made a new block: a slice with a token. -/
theorem grown_tok (wf : WF w h c) {id : Nat} (hid : id < h.length) (hf : h.at id = .free) {T : Ty} {l : List T.den} {us : List Value} (r : RepL w h c (cellsL T l) us) {ds : Array Value} {e : TypeId} {cap : Nat}
    (hds : ds.size = cap * T.sz) (htake : ds.toList.take (l.length * T.sz) = us) (hcap : l.length ≤ cap) (hmx : cap ≤ mx) :
    ∃ c', WF (w.drew.alloc (.cells ds e)) (h.set id .tok) c' ∧ Ext w h c (w.drew.alloc (.cells ds e)) (h.set id .tok) c' ∧ Rep (w.drew.alloc (.cells ds e)) (h.set id .tok) c' (.sl T l (.own id)) (.slice (some ⟨w.heap.size, 0, none⟩) l.length cap) := by
  have hb := below_drew_alloc w (.cells ds e)
  have hnb : ∀ b, some w.heap.size = some b → w.heap.size ≤ b := by intro b hb; cases hb; exact Nat.le_refl _
  have hnew : (w.drew.alloc (.cells ds e)).heap[w.heap.size]? = some (.cells ds e (0, 0)) := heap_alloc_new w.drew (.cells ds e)
  have x := new_ext (h := h) (c := c) hb hf .tok (no := l.length * T.sz) hnb
  have hm : l.length * T.sz ≤ cap * T.sz := Nat.mul_le_mul_right _ hcap
  have hob : ObjOK (w.drew.alloc (.cells ds e)) (h.set id .tok) (c.put id (some w.heap.size) (l.length * T.sz)) id .tok :=
    .inr ⟨w.heap.size, ds, e, (0, 0), put_blk_eq _ _ _, hnew, by rw [put_off_eq]; omega, fun y _ _ => frozen_none hnew y⟩
  refine ⟨_, new_wf wf hb hid hf hnb hob, x, sl_of_cells (r.mono x) hcap hmx (fun _ => ⟨w.heap.size, 0, rfl, fun j d hd => ?_, fun y _ hy => ?_⟩) (by simp) (fun i hi => ?_)⟩
  · rw [Nat.zero_add, cell_of_row _ _ _ _ _ _ hnew]
    rw [← htake, List.getElem?_take] at hd
    split at hd
    · simpa using hd
    · cases hd
  · refine not_owned_new wf _ _ _ (fun f hf' => ?_) hid
    simp [AObj.from_] at hf'
    omega
  · cases hi
    exact ⟨used_set hid (by simp), fun _ => .inr ⟨w.heap.size, 0, ds, e, (0, 0), put_blk_eq _ _ _, rfl, by rw [put_off_eq, Nat.zero_add], hnew, by omega⟩⟩

/-- Behind an append that made a new block: a row of ours. -/
theorem grown_row (wf : WF w h c) {id : Nat} (hid : id < h.length) (hf : h.at id = .free) {T : Ty} {l : List T.den} {us : List Value} (r : RepL w h c (cellsL T l) us) {ds : Array Value} {e : TypeId} {cap : Nat}
    (hds : ds.size = cap * T.sz) (htake : ds.toList.take (l.length * T.sz) = us) (hcap : l.length ≤ cap) (hmx : cap ≤ mx) :
    ∃ c', WF (w.drew.alloc (.cells ds e)) (h.set id (.row T l)) c' ∧ Ext w h c (w.drew.alloc (.cells ds e)) (h.set id (.row T l)) c' ∧
      Rep (w.drew.alloc (.cells ds e)) (h.set id (.row T l)) c' (.row id l.length) (.slice (some ⟨w.heap.size, 0, none⟩) l.length cap) := by
  have hb := below_drew_alloc w (.cells ds e)
  have hnb : ∀ b, some w.heap.size = some b → w.heap.size ≤ b := by intro b hb; cases hb; exact Nat.le_refl _
  have hnew : (w.drew.alloc (.cells ds e)).heap[w.heap.size]? = some (.cells ds e (0, 0)) := heap_alloc_new w.drew (.cells ds e)
  have x := new_ext (h := h) (c := c) hb hf (.row T l) (no := 0) hnb
  have hm : l.length * T.sz ≤ cap * T.sz := Nat.mul_le_mul_right _ hcap
  have r' := r.mono x
  have hob : ObjOK (w.drew.alloc (.cells ds e)) (h.set id (.row T l)) (c.put id (some w.heap.size) 0) id (.row T l) := by
    refine .inr ⟨w.heap.size, ds, e, (0, 0), put_blk_eq _ _ _, hnew, by rw [put_off_eq]; omega, fun y _ => frozen_none hnew y, fun n j z v hz hv => ?_⟩
    have hj : j < T.sz := by rw [← T.cells_len z]; exact (List.getElem?_eq_some_iff.1 hv).1
    have hn : n < l.length := (List.getElem?_eq_some_iff.1 hz).1
    have hlt : n * T.sz + j < l.length * T.sz := by
      have := Nat.mul_le_mul_right T.sz hn
      rw [Nat.succ_mul] at this; omega
    have hl := r.1
    rw [cellsL_len] at hl
    have hg := List.getElem?_eq_getElem (show n * T.sz + j < us.length by omega)
    refine ⟨us[n * T.sz + j]'(by omega), ?_, r'.2 _ v _ ((cellsL_get T l n j z hz hj).trans hv) hg⟩
    rw [put_off_eq, Nat.zero_add, ← hg, ← htake, List.getElem?_take, if_pos hlt]
    simp
  refine ⟨_, new_wf wf hb hid hf hnb hob, x, .row (used_set hid (by simp)) (by omega) ⟨_, _, rfl, fun _ => ⟨_, rfl⟩, fun T' l' he => ?_⟩⟩
  rw [at_set_eq _ hid] at he
  cases he
  exact ⟨rfl, hcap, hmx, .inr ⟨w.heap.size, ds, e, (0, 0), put_blk_eq _ _ _, by rw [put_off_eq], hnew, by rw [put_off_eq]; omega⟩⟩

/-- Nothing was appended to nil: a token without a block. -/
theorem none_tok (wf : WF w h c) {id : Nat} (hid : id < h.length) (hf : h.at id = .free) {T : Ty} :
    ∃ c', WF w (h.set id .tok) c' ∧ Ext w h c w (h.set id .tok) c' ∧ Rep w (h.set id .tok) c' (.sl T [] (.own id)) (.slice none 0 0) := by
  have hnb : ∀ b, (none : Option Nat) = some b → w.heap.size ≤ b := by intro b hb; cases hb
  have x := new_ext (h := h) (c := c) (Below.refl w.heap.size w) hf .tok (no := 0) hnb
  refine ⟨_, new_wf wf (Below.refl _ _) hid hf hnb (.inl (put_blk_eq _ _ _)), x, ?_⟩
  exact sl_of_cells (l := []) (ds := []) RepL.nil (Nat.le_refl _) (by unfold mx; omega) (fun h => absurd rfl h) (by simp) (fun i hi => by
    cases hi; exact ⟨used_set hid (by simp), fun _ => .inl ⟨put_blk_eq _ _ _, rfl, rfl⟩⟩)

theorem none_row (wf : WF w h c) {id : Nat} (hid : id < h.length) (hf : h.at id = .free) {T : Ty} :
    ∃ c', WF w (h.set id (.row T [])) c' ∧ Ext w h c w (h.set id (.row T [])) c' ∧ Rep w (h.set id (.row T [])) c' (.row id 0) (.slice none 0 0) := by
  have hnb : ∀ b, (none : Option Nat) = some b → w.heap.size ≤ b := by intro b hb; cases hb
  have x := new_ext (h := h) (c := c) (Below.refl w.heap.size w) hf (.row T []) (no := 0) hnb
  refine ⟨_, new_wf wf (Below.refl _ _) hid hf hnb (.inl ⟨put_blk_eq _ _ _, rfl⟩), x, ?_⟩
  refine .row (used_set hid (by simp)) (by unfold mx; omega) ⟨none, 0, rfl, fun h => by omega, fun T' l' he => ?_⟩
  rw [at_set_eq _ hid] at he
  cases he
  exact ⟨rfl, Nat.le_refl _, by unfold mx; omega, .inl ⟨put_blk_eq _ _ _, rfl, rfl⟩⟩

theorem bytesI_len (s : Str) : (bytesI s).length = s.length := List.length_map (as := s) _
theorem cellsL_bytes : ∀ s : Str, cellsL (.int .u8) (bytesI s) = s.map fun b => V.int .u8 b.toNat
  | [] => rfl
  | b :: s => by
    show V.int .u8 b.toNat :: cellsL (.int .u8) (bytesI s) = _
    rw [cellsL_bytes s]; rfl

/-- The cells of a row of ours, all. -/
theorem row_all (wf : WF w h c) {i : Nat} {T : Ty} {l : List T.den} (he : h.at i = .row T l) :
    ∃ ds, RepL w h c (cellsL T l) ds ∧ (l ≠ [] → ∃ b, c.blk i = some b ∧ CellsAt w b (c.off i) ds) := by
  have hi := Heap.at_live he (by simp)
  have ho := wf.obj i hi
  rw [he] at ho
  rcases ho with ⟨_, rfl⟩ | ⟨b, arr, e, fz, h1, h2, h3, h4, h5⟩
  · exact ⟨[], .nil, fun h => absurd rfl h⟩
  · refine ⟨(arr.toList.drop (c.off i)).take (l.length * T.sz), ⟨by rw [cellsL_len]; simp; omega, fun k v d hv hd => ?_⟩, fun _ => ⟨b, h1, fun k d hd => ?_⟩⟩
    · have hk : k < l.length * T.sz := by rw [← cellsL_len]; exact (List.getElem?_eq_some_iff.1 hv).1
      have hq : k / T.sz < l.length := (Nat.div_lt_iff_lt_mul T.sz_pos).2 hk
      have hj := Nat.mod_lt k T.sz_pos
      have e : k / T.sz * T.sz + k % T.sz = k := by rw [Nat.mul_comm]; exact Nat.div_add_mod _ _
      have hg := cellsL_get T l (k / T.sz) (k % T.sz) _ (List.getElem?_eq_getElem hq) hj
      rw [e] at hg
      rw [hg] at hv
      obtain ⟨d', p1, p2⟩ := h5 _ _ _ v (List.getElem?_eq_getElem hq) hv
      rw [Nat.add_assoc, e] at p1
      rw [List.getElem?_take, if_pos hk, List.getElem?_drop] at hd
      have e1 : arr[c.off i + k]? = some d := by simpa using hd
      rw [p1] at e1; cases e1; exact p2
    · rw [List.getElem?_take] at hd
      split at hd
      · rw [List.getElem?_drop] at hd
        rw [cell_of_row w b _ arr e fz h2]; simpa using hd
      · cases hd

/-- What is appended: its elements' cells. -/
theorem src_sound (wf : WF w h c) {T : Ty} {sz : Nat} (hsz : T.sz = sz) {v : V} {v' : Value} (rv : Rep w h c v v') {m : List T.den} (hs : srcOf T h v = some m) :
    ∃ news, (Builtin.lenOf v').run P w = .ok m.length w ∧ (∀ W : World, W.heap = w.heap → (Builtin.firstCells sz m.length v').run P W = .ok news.toArray W) ∧ RepL w h c (cellsL T m) news ∧ m.length ≤ mx := by
  subst hsz
  have hcell : ∀ (W : World) (b x : Nat), W.heap = w.heap → W.cell? ⟨b, x, none⟩ = w.cell? ⟨b, x, none⟩ := fun W b x hW => by simp only [World.cell?, hW]
  have key : ∀ (A : Option Addr) (cap : Nat) (news : List Value), RepL w h c (cellsL T m) news → (m ≠ [] → ∃ b o, A = some ⟨b, o, none⟩ ∧ CellsAt w b o news) →
      ∀ W : World, W.heap = w.heap → (Builtin.firstCells T.sz m.length (.slice A m.length cap)).run P W = .ok news.toArray W := by
    intro A cap news hr hA W hW
    have hl := hr.1
    rw [cellsL_len] at hl
    by_cases hm : m = []
    · subst hm
      have : news = [] := List.eq_nil_of_length_eq_zero (by simpa using hl.symm)
      subst this
      exact run_firstCells0 (by simp)
    · obtain ⟨b, o, rfl, hc⟩ := hA hm
      exact run_firstCells hl.symm (fun j d hd => by rw [hcell W _ _ hW]; exact hc j d hd)
  unfold srcOf at hs
  split at hs
  · cases hs
    cases rv
    exact ⟨[], by simp [Builtin.lenOf], fun W hW => run_firstCells0 (by simp), .nil, by simp⟩
  · rename_i T' l t
    split at hs
    · rename_i e
      subst e
      obtain rfl : l = m := by simpa using hs
      obtain ⟨A, cap, rfl, h1, h2⟩ := sl_inv rv
      obtain ⟨ds, g1, g2⟩ := sl_cells rv
      exact ⟨ds, by simp [Builtin.lenOf], key A cap ds g1 (fun hne => by obtain ⟨b, o, q1, q2, _⟩ := g2 hne; exact ⟨b, o, q1, q2⟩), g1, by omega⟩
    · cases hs
  · rename_i i n
    split at hs
    · rename_i T' l hrow
      split at hs
      · rename_i e
        subst e
        obtain rfl : l = m := by simpa using hs
        cases rv with
        | row hu hn hv =>
          obtain ⟨A, cap, rfl, hA, hv⟩ := hv
          obtain ⟨g1, g2, g3, g4⟩ := hv _ _ hrow
          obtain ⟨ds, k1, k2⟩ := row_all wf hrow
          subst g1
          exact ⟨ds, by simp [Builtin.lenOf], key A cap ds k1 (fun hne => by
            obtain ⟨b, q1, q2⟩ := k2 hne
            rcases g4 with ⟨p1, _⟩ | ⟨b', arr, el, fz, p1, p2, _⟩
            · rw [q1] at p1; cases p1
            · rw [q1] at p1; cases p1
              exact ⟨b, _, p2, q2⟩), k1, hn⟩
      · cases hs
    · cases hs
  · rename_i n cs
    split at hs
    · rename_i hcl
      cases rv with
      | @vsl _ sz' _ A hn hmx f hc hr =>
        have hr' : RepL w h c cs ((List.range cs.length).map f) := by
          refine ⟨by simp, fun j v d hv hd => ?_⟩
          have hlt : j < cs.length := (List.getElem?_eq_some_iff.1 hv).1
          simp only [List.getElem?_map, List.getElem?_range hlt, Option.map_some, Option.some.injEq] at hd
          subst hd
          exact hr j v hv
        have hrep := decAll_rep hcl hr' hs
        have hml : m.length = n := by rw [decAll_len hs, chunks_len]
        rw [← hml]
        exact ⟨_, by simp [Builtin.lenOf], key A m.length _ hrep (fun hne => by
          have hpos : 0 < cs.length := by
            have := List.length_pos_iff.2 hne
            rw [hcl, ← hml]
            exact Nat.mul_pos this T.sz_pos
          obtain ⟨b, o, rfl, _⟩ := hc 0 hpos
          refine ⟨b, o, rfl, fun j d hd => ?_⟩
          simp only [List.getElem?_map] at hd
          by_cases hlt : j < cs.length
          · rw [List.getElem?_range hlt] at hd
            simp at hd; subst hd
            obtain ⟨b', o', e', q1, _⟩ := hc j hlt
            cases e'
            exact q1
          · rw [List.getElem?_eq_none (by simp; omega)] at hd; cases hd), hrep, by omega⟩
    · cases hs
  · rename_i s
    split at hs
    · rename_i e
      subst e
      obtain ⟨t, rfl, rfl, hl⟩ := rv.str_inv
      obtain rfl : bytesI t.data.toList = m := by simpa using hs
      refine ⟨t.data.toList.map fun b => Value.int .u8 b.toNat, ?_, fun W hW => ?_, ?_, ?_⟩
      · rw [bytesI_len, size_data]; simp [Builtin.lenOf]
      · rw [bytesI_len, size_data]
        simp only [Builtin.firstCells, Sem.run_pure]
        congr 1
        apply Array.ext'
        simp
      · rw [cellsL_bytes]; exact RepL.map _ fun b _ => .int (has_byte _ (UInt8.toNat_lt b))
      · rw [bytesI_len, size_data]; exact hl
    · cases hs
  · cases hs

/-- Behind an append into our own spare places: a token moves on. -/
theorem fit_tok (wf : WF w h c) {i id : Nat} (hi : h.at i = .tok) (hid : id < h.length) (hf : h.at id = .free) {b o : Nat} (hb : c.blk i = some b) {T : Ty} {l m : List T.den} (hoff : c.off i = o + l.length * T.sz)
    {arr cur' : Array Value} {el : TypeId} {fz : Nat × Nat} (harr : w.heap[b]? = some (.cells arr el fz)) (hw : Wrote w w' b cur' el fz) {cap : Nat} (hcap : (l ++ m).length ≤ cap) (hmx : cap ≤ mx) (hsz : o + cap * T.sz ≤ arr.size)
    {olds news : List Value} (ro : RepL w h c (cellsL T l) olds) (rn : RepL w h c (cellsL T m) news) (hold : l ≠ [] → CellsAt w b o olds) (hun : ∀ x, o ≤ x → x < o + l.length * T.sz → Free h c b x)
    (hcur : cur'.toList = arr.toList.take (o + l.length * T.sz) ++ news ++ arr.toList.drop (o + l.length * T.sz + news.length)) :
    ∃ c', WF w' ((h.set i .dead).set id .tok) c' ∧ Ext w h c w' ((h.set i .dead).set id .tok) c' ∧ Rep w' ((h.set i .dead).set id .tok) c' (.sl T (l ++ m) (.own id)) (.slice (some ⟨b, o, none⟩) (l ++ m).length cap) := by
  have hne : i ≠ id := by rintro rfl; rw [hi] at hf; cases hf
  have hil := Heap.at_live hi (by simp)
  have hlen1 := ro.1
  have hlen2 := rn.1
  rw [cellsL_len] at hlen1 hlen2
  have hmul : (l ++ m).length * T.sz ≤ cap * T.sz := Nat.mul_le_mul_right _ hcap
  have hlm : (l ++ m).length * T.sz = l.length * T.sz + m.length * T.sz := by rw [List.length_append, Nat.add_mul]
  have hcs : cur'.size = arr.size := by
    rw [← Array.length_toList, hcur]; simp only [List.length_append, List.length_take, List.length_drop, Array.length_toList]; omega
  have hid1 : id < (h.set i .dead).length := by simpa using hid
  have hat : ∀ j, Heap.at ((h.set i .dead).set id .tok) j = if id = j then .tok else if i = j then .dead else h.at j := by
    intro j
    rw [at_set, at_set]
    by_cases h1 : id = j
    · simp [h1]; intro h2; subst h1; omega
    · simp only [h1, false_and, if_false]
      by_cases h2 : i = j
      · subst h2; simp [hil]
      · simp [h2]
  have hc' : ∀ j, j ≠ id → (c.put id (some b) (o + (l ++ m).length * T.sz)).blk j = c.blk j ∧ (c.put id (some b) (o + (l ++ m).length * T.sz)).off j = c.off j := fun j hj => ⟨put_blk_ne _ _ hj, put_off_ne _ _ hj⟩
  have hoth : ∀ j, j ≠ i → (h.at j).live → c.blk j ≠ some b := fun j hj hl hbj => hj (wf.inj j i b hl (by rw [hi]; trivial) hbj hb)
  have hcellx : ∀ x, x < o + l.length * T.sz → w'.cell? ⟨b, x, none⟩ = w.cell? ⟨b, x, none⟩ := by
    intro x hx
    rw [cell_of_row w' b x cur' el fz hw.here, cell_of_row w b x arr el fz harr, ← Array.getElem?_toList, ← Array.getElem?_toList, hcur, List.append_assoc,
      List.getElem?_append_left (by simp only [List.length_take, Array.length_toList]; omega), List.getElem?_take, if_pos hx]
  have howns : ∀ b' x, Owns ((h.set i .dead).set id .tok) (c.put id (some b) (o + (l ++ m).length * T.sz)) b' x → Owns h c b' x := by
    rintro b' x ⟨j, f, g1, g2, g3⟩
    rw [hat] at g2
    by_cases h1 : id = j
    · subst h1
      rw [put_blk_eq] at g1
      cases g1
      rw [if_pos rfl, put_off_eq] at g2
      simp only [AObj.from_, Option.some.injEq] at g2
      exact ⟨i, c.off i, hb, by rw [hi]; rfl, by omega⟩
    · rw [if_neg h1] at g2
      split at g2
      · simp [AObj.from_] at g2
      · obtain ⟨e1, e2⟩ := hc' j (Ne.symm h1)
        rw [e1] at g1; rw [e2] at g2
        exact ⟨j, f, g1, g2, g3⟩
  have x : Ext w h c w' ((h.set i .dead).set id .tok) (c.put id (some b) (o + (l ++ m).length * T.sz)) := by
    constructor
    · exact hw.os
    · exact hw.tape
    · exact hw.output
    · rw [hw.size]; exact Nat.le_refl _
    · intro j hj
      refine ⟨by simpa using hj.1, ?_⟩
      rw [hat]
      split
      · simp
      · split
        · simp
        · exact hj.2
    · intro j hj hd
      have hjid : id ≠ j := by rintro rfl; exact hj.2 hf
      rw [hat, if_neg hjid] at hd ⊢
      split
      · rename_i h2; rw [if_pos h2] at hd; exact absurd rfl hd
      · rename_i h2
        rw [if_neg h2] at hd
        refine ⟨?_, (hc' j (Ne.symm hjid)).1, (hc' j (Ne.symm hjid)).2⟩
        have h3 := hj.2
        revert hd h3
        cases h.at j <;> simp [AObj.sim]
    · intro b' y hy ho
      by_cases hbb : b' = b
      · subst hbb
        refine hcellx y ?_
        rcases Nat.lt_or_ge y (o + l.length * T.sz) with h1 | h1
        · exact h1
        · exact absurd ⟨i, c.off i, hb, by rw [hi]; rfl, by omega⟩ ho
      · exact blocks_cell (hw.other b' hbb)
    · intro b' hb' ho
      have hbb : b' ≠ b := by
        rintro rfl
        exact ho (c.off i) ⟨i, c.off i, hb, by rw [hi]; rfl, Nat.le_refl _⟩
      exact hw.other b' hbb
    · intro b' y _ ho; exact howns b' y ho
    · rfl
    · intro b' arr' e' fz' ha
      by_cases hbb : b' = b
      · subst hbb
        rw [harr] at ha; cases ha
        exact ⟨cur', fz, hw.here, hcs⟩
      · exact ⟨arr', fz', by rw [hw.other b' hbb]; exact ha, rfl⟩
  obtain ⟨fl, fh⟩ := fz
  have hti := wf.obj i hil
  rw [hi] at hti
  have hfz : ∀ y, o + l.length * T.sz ≤ y → y < arr.size → w.frozen? ⟨b, y, none⟩ = false := by
    rcases hti with h0 | ⟨b', arr', e', fz', p1, p2, p3, p4⟩
    · rw [hb] at h0; cases h0
    · rw [hb] at p1; cases p1
      rw [harr] at p2; cases p2
      intro y h1 h2
      exact p4 y (by omega) h2
  have wf' : WF w' ((h.set i .dead).set id .tok) (c.put id (some b) (o + (l ++ m).length * T.sz)) := by
    constructor
    · intro b' y ho; exact wf.disj b' y (howns b' y ho)
    · intro b' y he; rw [hw.size]; exact wf.extlt b' y he
    · intro j hj
      rw [hat]
      by_cases h1 : id = j
      · subst h1
        rw [if_pos rfl]
        refine .inr ⟨b, cur', el, (fl, fh), put_blk_eq _ _ _, hw.here, by rw [put_off_eq]; omega, fun y h1 h2 => ?_⟩
        rw [put_off_eq] at h1
        have := hfz y (by omega) (by omega)
        rw [frozen_of harr] at this
        rw [frozen_of hw.here]; exact this
      · rw [if_neg h1]
        split
        · trivial
        · rename_i h2
          by_cases hl : (h.at j).live
          · refine (wf.obj j (by simpa using hj)).keep x (fun b' hb' => hw.other b' ?_) (hc' j (Ne.symm h1)).1 (hc' j (Ne.symm h1)).2
            rintro rfl
            exact hoth j (Ne.symm h2) hl hb'
          · revert hl; cases h.at j <;> simp [AObj.live, ObjOK]
    · intro j k b' hj hk h1 h2
      rw [hat] at hj hk
      by_cases e1 : id = j <;> by_cases e2 : id = k
      · exact e1.symm.trans e2
      · subst e1
        rw [put_blk_eq] at h1; cases h1
        rw [if_neg e2] at hk
        rw [(hc' k (Ne.symm e2)).1] at h2
        split at hk
        · exact hk.elim
        · rename_i h3; exact absurd h2 (hoth k (Ne.symm h3) hk)
      · subst e2
        rw [put_blk_eq] at h2; cases h2
        rw [if_neg e1] at hj
        rw [(hc' j (Ne.symm e1)).1] at h1
        split at hj
        · exact hj.elim
        · rename_i h3; exact absurd h1 (hoth j (Ne.symm h3) hj)
      · rw [if_neg e1] at hj
        rw [if_neg e2] at hk
        rw [(hc' j (Ne.symm e1)).1] at h1
        rw [(hc' k (Ne.symm e2)).1] at h2
        split at hj
        · exact hj.elim
        · split at hk
          · exact hk.elim
          · exact wf.inj j k b' hj hk h1 h2
  refine ⟨_, wf', x, ?_⟩
  have rr : RepL w' ((h.set i .dead).set id .tok) (c.put id (some b) (o + (l ++ m).length * T.sz)) (cellsL T (l ++ m)) (olds ++ news) := by
    rw [cellsL_append]; exact (ro.mono x).append (rn.mono x)
  refine sl_of_cells rr hcap hmx (fun _ => ⟨b, o, rfl, fun j d hd => ?_, fun y h1 h2 => ⟨fun ho => ?_, fun he => ?_⟩⟩) (by simp) (fun k hk => ?_)
  · by_cases hj : j < olds.length
    · rw [List.getElem?_append_left hj] at hd
      have hlne : l ≠ [] := by rintro rfl; simp at hlen1; omega
      rw [hcellx (o + j) (by omega)]
      exact hold hlne j d hd
    · rw [List.getElem?_append_right (by omega)] at hd
      have hj2 : j - olds.length < news.length := (List.getElem?_eq_some_iff.1 hd).1
      have l1 : (arr.toList.take (o + l.length * T.sz)).length = o + l.length * T.sz := by simp only [List.length_take, Array.length_toList]; omega
      rw [cell_of_row w' b _ cur' el (fl, fh) hw.here, ← Array.getElem?_toList, hcur, List.append_assoc, List.getElem?_append_right (by omega), l1, List.getElem?_append_left (by omega)]
      rw [← hd]; congr 1; omega
  · obtain ⟨j, f, g1, g2, g3⟩ := ho
    rw [hat] at g2
    by_cases e1 : id = j
    · subst e1
      rw [if_pos rfl, put_off_eq] at g2
      simp only [AObj.from_, Option.some.injEq] at g2
      omega
    · rw [if_neg e1] at g2
      rw [(hc' j (Ne.symm e1)).1] at g1
      split at g2
      · simp [AObj.from_] at g2
      · rename_i h3; exact hoth j (Ne.symm h3) (from_live g2) g1
  · rcases Nat.lt_or_ge y (o + l.length * T.sz) with q | q
    · exact (hun y h1 q).2 he
    · exact wf.disj b y ⟨i, c.off i, hb, by rw [hi]; rfl, by omega⟩ he
  · cases hk
    refine ⟨⟨by simpa using hid, by rw [hat, if_pos rfl]; simp⟩, fun _ => .inr ⟨b, o, cur', el, (fl, fh), put_blk_eq _ _ _, rfl, put_off_eq _ _ _, hw.here, by rw [hcs]; exact hsz⟩⟩
end
end Go.Yard
