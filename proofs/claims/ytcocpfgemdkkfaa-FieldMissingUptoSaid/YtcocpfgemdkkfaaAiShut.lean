/-
  The abstract interpreter, part 23b: values without their tokens, rows read; a plain call to which rows are lent. Own work.
-/
import Derived.Test.YtcocpfgemdkkfaaAiNat
namespace Go.Yard
open Go.RowKit

section
variable {P : Program} {tt : TTab} {w w' : World} {h h' : Heap} {c c' : Cfg} {R : Type}

/-! ### behind a function -/
theorem killRows_ext : ∀ (l : List Nat) (h : Heap), Ext w h c w (killRows h l) c
  | [], h => .refl _ _ _
  | i :: l, h => by
    simp only [killRows]
    split
    · exact (kill_ext i).trans (killRows_ext l _)
    · exact killRows_ext l h

theorem killRows_wf : ∀ (l : List Nat) (h : Heap), WF w h c → WF w (killRows h l) c
  | [], h, wf => wf
  | i :: l, h, wf => by
    simp only [killRows]
    split
    · exact killRows_wf l _ (kill_wf wf i)
    · exact killRows_wf l h wf

theorem killRows_at : ∀ (l : List Nat) (h : Heap) (j : Nat), Heap.at (killRows h l) j = h.at j ∨ Heap.at (killRows h l) j = .dead
  | [], h, j => .inl rfl
  | i :: l, h, j => by
    simp only [killRows]
    split
    · rcases killRows_at l (h.set i .dead) j with e | e
      · rw [e, at_set]
        split
        · exact .inr rfl
        · exact .inl rfl
      · exact .inr e
    · exact killRows_at l h j

theorem killRows_in : ∀ (l : List Nat) (h : Heap) (j : Nat) {T : Ty} {m : List T.den}, j ∈ l → h.at j = .row T m → Heap.at (killRows h l) j = .dead
  | [], _, _, _, _, hj, _ => by cases hj
  | i :: l, h, j, T, m, hj, he => by
    simp only [killRows]
    by_cases hij : i = j
    · subst hij
      split
      · rcases killRows_at l (h.set i .dead) i with e | e
        · rw [e]; exact at_set_eq _ (Heap.at_live he (by simp))
        · exact e
      · rename_i hn; exact (hn T m he).elim
    · have hj' : j ∈ l := by
        rcases List.mem_cons.1 hj with rfl | h
        · exact (hij rfl).elim
        · exact h
      split
      · exact killRows_in l _ j hj' (by rw [at_set_ne _ hij]; exact he)
      · exact killRows_in l h j hj' he

theorem shutL_eq (h : Heap) : ∀ l : List V, V.shutL h l = l.map (V.shut h)
  | [] => rfl
  | v :: l => by simp only [V.shutL, List.map_cons, shutL_eq h l]

theorem Owns.dead {ids : List Nat} {b x : Nat} (ho : Owns (killRows h ids) c b x) : Owns h c b x := by
  obtain ⟨i, f, g1, g2, g3⟩ := ho
  rcases killRows_at ids h i with e | e
  · exact ⟨i, f, g1, e ▸ g2, g3⟩
  · rw [e] at g2; cases g2

/-- A value without its tokens. -/
theorem shut_rep (wf : WF w h c) {ids : List Nat} {v : V} {d : Value} (r : Rep w h c v d) : (∀ i ∈ v.ids, i ∈ ids) → Rep w (killRows h ids) c (v.shut h) d := by
  have x := killRows_ext (w := w) (c := c) ids h
  induction r with
  | sl f hcap hmx hc hr hnil hown => exact fun _ => (Rep.sl (t := .no) f hcap hmx hc hr (by simp) (by simp)).mono x
  | @row i n v hi hn hv =>
    intro hids
    simp only [V.shut]
    split
    · rename_i T l he
      obtain ⟨A, cap, rfl, hA, hv⟩ := hv
      obtain ⟨hnl, hle, hmx, hor⟩ := hv T l he
      obtain ⟨ds, rds, hcell⟩ := row_all wf he
      subst hnl
      refine sl_of_cells (rds.mono x) hle hmx (fun hl => ?_) (by simp) (by simp)
      obtain ⟨b, hb, hcs⟩ := hcell hl
      rcases hor with ⟨h1, _⟩ | ⟨b', arr, e, fz, h1, h2, h3, h4⟩
      · rw [hb] at h1; cases h1
      · rw [hb] at h1; cases h1
        refine ⟨b, c.off i, h2, hcs, fun y hy1 hy2 => ?_⟩
        have hown : Owns h c b y := ⟨i, 0, hb, by rw [he]; rfl, Nat.zero_le _⟩
        refine ⟨fun ho => ?_, wf.disj b y hown⟩
        obtain ⟨j, f, g1, g2, g3⟩ := ho
        have hdead := killRows_in ids h i (hids i (by simp [V.ids])) he
        rcases killRows_at ids h j with e' | e'
        · have hlj : (h.at j).live := by rw [e'] at g2; exact from_live g2
          have := wf.inj i j b (by rw [he]; trivial) hlj hb g1
          subst this
          rw [hdead] at g2
          cases g2
        · rw [e'] at g2; cases g2
    · exact .undef _
  | @agg cs y hl _ ih =>
    intro hids
    simp only [V.shut, shutL_eq]
    refine .agg (by simpa using hl) fun j v d hv hd => ?_
    rw [List.getElem?_map] at hv
    cases e : cs[j]? with
    | none => rw [e] at hv; cases hv
    | some u =>
      rw [e] at hv; simp at hv; subst hv
      exact ih j u d e hd fun i hi => hids i (by simp only [V.ids]; exact idsL_mem.2 ⟨j, u, e, hi⟩)
  | @tuple cs y hl _ ih =>
    intro hids
    simp only [V.shut, shutL_eq]
    refine .tuple (by simpa using hl) fun j v d hv hd => ?_
    rw [List.getElem?_map] at hv
    cases e : cs[j]? with
    | none => rw [e] at hv; cases hv
    | some u =>
      rw [e] at hv; simp at hv; subst hv
      exact ih j u d e hd fun i hi => hids i (by simp only [V.ids]; exact idsL_mem.2 ⟨j, u, e, hi⟩)
  | undef v => exact fun _ => .undef _
  | int hn => exact fun _ => .int hn
  | bool b => exact fun _ => .bool b
  | str hl => exact fun _ => .str hl
  | nilptr => exact fun _ => .nilptr
  | nilsl => exact fun _ => .nilsl
  | nilfunc => exact fun _ => .nilfunc
  | nilmap => exact fun _ => .nilmap
  | niliface => exact fun _ => .niliface
  | anyb b => exact fun _ => .anyb b
  | ptr hi hv => exact fun _ => (Rep.ptr hi hv).mono x
  | map hi hv => exact fun _ => (Rep.map hi hv).mono x
  | rptr hi hv => exact fun _ => (Rep.rptr hi hv).mono x
  | iptr f hc hr _ => exact fun _ => (Rep.iptr f hc hr).mono x
  | vsl hn hmx f hc hr _ => exact fun _ => (Rep.vsl hn hmx f hc hr).mono x
  | func ha hb hra hrb _ _ => exact fun _ => (Rep.func ha hb hra hrb).mono x

theorem shutL_rep (wf : WF w h c) {vs : List V} {ds : List Value} (r : RepL w h c vs ds) : RepL w (killRows h (V.idsL vs)) c (V.shutL h vs) ds := by
  rw [shutL_eq]
  refine ⟨by simpa using r.1, fun j v d hv hd => ?_⟩
  rw [List.getElem?_map] at hv
  cases e : vs[j]? with
  | none => rw [e] at hv; cases hv
  | some u =>
    rw [e] at hv; simp at hv; subst hv
    exact shut_rep wf (r.2 j u d e hd) fun i hi => idsL_mem.2 ⟨j, u, e, hi⟩

theorem canon_rep {t : Nat} {v : V} {d : Value} (r : Rep w h c v d) : Rep w h c (canon tt t v) d := by
  unfold canon
  split
  · rename_i T hT
    split
    · rename_i cs
      split
      · rename_i x hx
        split
        · cases r with
          | @agg _ y hl hr =>
            have rl : RepL w h c cs y.toList := ⟨by simpa using hl, fun j v d hv hd => hr j v d hv (by simpa using hd)⟩
            have := dec_rep hx rl
            exact .agg (by simpa using this.1) fun j v d hv hd => this.2 j v d hv (by simpa using hd)
        · exact r
      · exact r
    · split
      · rename_i x hx
        split
        · exact r
        · have := dec_rep hx (RepL.cons r RepL.nil)
          split
          · rename_i e he
            rw [he] at this
            exact this.head
          · exact r
      · exact r
  · split
    · split
      · split
        · rename_i l hl; exact asSl_sound r hl
        · exact r
      · exact r
    · exact r

theorem canonA_rep : ∀ (ts : List Nat) {vs : List V} {ds : List Value}, RepL w h c vs ds → RepL w h c (canonA tt ts vs) ds
  | [], vs, ds, r => by simpa [canonA] using r
  | t :: ts, [], ds, r => by simpa [canonA] using r
  | t :: ts, v :: vs, [], r => by have := r.1; simp at this
  | t :: ts, v :: vs, d :: ds, r => .cons (canon_rep r.head) (canonA_rep ts r.tail)

theorem scal1_rep {v : V} {d : Value} (hs : v.scal1 = true) (r : Rep w h c v d) : Rep w' h' c' v d := by
  cases r <;> simp only [V.scal1] at hs <;> try (first | cases hs)
  case int hn => exact .int hn
  case bool b => exact .bool b
  case str hl => exact .str hl
  case nilptr => exact .nilptr
  case nilsl => exact .nilsl
  case nilfunc => exact .nilfunc
  case nilmap => exact .nilmap
  case niliface => exact .niliface

theorem scal_rep {v : V} {d : Value} (hs : v.scal = true) (r : Rep w h c v d) : Rep w' h' c' v d := by
  cases r
  case agg hl hr =>
    simp only [V.scal, List.all_eq_true] at hs
    exact .agg hl fun j v d hv hd => scal1_rep (hs v (List.mem_of_getElem? hv)) (hr j v d hv hd)
  case tuple hl hr =>
    simp only [V.scal, List.all_eq_true] at hs
    exact .tuple hl fun j v d hv hd => scal1_rep (hs v (List.mem_of_getElem? hv)) (hr j v d hv hd)
  all_goals first
    | exact scal1_rep (w := w) (h := h) (c := c) hs (by constructor <;> assumption)
    | (simp only [V.scal, V.scal1] at hs; cases hs)

/-- Behind a call that was handed no object of ours nothing that stood there has turned. -/
theorem still_ext {c1 c2 : Cfg} (wf : WF w h c) (x : Ext w [] c1 w' h' c2) : Ext w h c w' h c ∧ WF w' h c := by
  have nown : ∀ b y, ¬ Owns ([] : Heap) c1 b y := fun b y ho => by
    obtain ⟨i, f, _, g2, _⟩ := ho
    simp [Heap.at, AObj.from_] at g2
  have hx : Ext w h c w' h c := {
    os := x.os
    tape := x.tape
    output := x.output
    size := x.size
    used := fun _ hi => hi
    same := fun i hi hd => ⟨by have h2 := hi.2; revert hd h2; cases h.at i <;> simp [AObj.sim], rfl, rfl⟩
    cell := fun b y hb _ => x.cell b y hb (nown b y)
    block := fun b hb _ => x.block b hb (nown b)
    owns := fun _ _ _ ho => ho
    ext := rfl
    arr := x.arr }
  refine ⟨hx, ?_, fun b y hb => Nat.lt_of_lt_of_le (wf.extlt b y hb) x.size, fun i hi => ?_, wf.inj⟩
  · exact wf.disj
  · by_cases hl : (h.at i).live
    · exact (wf.obj i hi).keep hx (fun b hb => x.block b ((wf.obj i hi).lt hl hb) (nown b)) rfl rfl
    · have h0 : h.at i = .free ∨ h.at i = .dead := by revert hl; cases h.at i <;> simp [AObj.live]
      rcases h0 with h0 | h0 <;> rw [h0] <;> trivial
end
end Go.Yard
