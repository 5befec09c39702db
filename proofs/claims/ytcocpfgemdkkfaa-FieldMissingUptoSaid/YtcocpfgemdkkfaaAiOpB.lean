/-
  The abstract interpreter, part 15: allocations: the theorem. Own work.
-/
import Derived.Test.YtcocpfgemdkkfaaAiOpA
namespace Go.Yard
open Go.RowKit

section
variable {P : Program} {tt : TTab} {w : World} {h : Heap} {c : Cfg} {R : Type}

theorem frozen_none {w : World} {b : Nat} {arr : Array Value} {e : TypeId} (hb : w.heap[b]? = some (.cells arr e (0, 0))) (x : Nat) : w.frozen? ⟨b, x, none⟩ = false := by
  simp [World.frozen?, hb]

/-- A new row of ours. -/
theorem alloc_row (wf : WF w h c) {T : Ty} {l : List T.den} {ds : Array Value} {w' : World} (hb : Below w.heap.size w w') {e : TypeId} {fz : Nat × Nat} (hnew : w'.heap[w.heap.size]? = some (.cells ds e fz))
    (hfz : ∀ x, x < ds.size → w'.frozen? ⟨w.heap.size, x, none⟩ = false) {cap : Nat} (hcap : l.length ≤ cap) (hmx : cap ≤ mx) (hsz : cap * T.sz ≤ ds.size)
    (hr : ∀ (n j : Nat) (x : T.den) (v : V), l[n]? = some x → (T.cells x)[j]? = some v → ∃ d, ds[n * T.sz + j]? = some d ∧ ∀ (w : World) (h : Heap) (c : Cfg), Rep w h c v d)
    {s : Sem Value} (hrun : s.run P w = .ok (.slice (some ⟨w.heap.size, 0, none⟩) l.length cap) w') :
    Allocs P w h c s (.row T l) fun i => .row i l.length := by
  intro id hid hf
  have hnb : ∀ b, some w.heap.size = some b → w.heap.size ≤ b := by intro b hb; cases hb; exact Nat.le_refl _
  have x := new_ext (h := h) (c := c) hb hf (.row T l) (no := 0) hnb
  have hm : l.length * T.sz ≤ cap * T.sz := Nat.mul_le_mul_right _ hcap
  have hob : ObjOK w' (h.set id (.row T l)) (c.put id (some w.heap.size) 0) id (.row T l) := by
    refine .inr ⟨w.heap.size, ds, e, fz, put_blk_eq _ _ _, hnew, by rw [put_off_eq]; omega, hfz, fun n j y v hy hv => ?_⟩
    obtain ⟨d, h1, h2⟩ := hr n j y v hy hv
    exact ⟨d, by rw [put_off_eq, Nat.zero_add]; exact h1, h2 _ _ _⟩
  refine ⟨_, _, _, hrun, new_wf wf hb hid hf hnb hob, x, ?_⟩
  refine .row (used_set hid (by simp)) (by omega) ⟨_, _, rfl, fun _ => ⟨_, rfl⟩, fun T' l' he => ?_⟩
  rw [at_set_eq _ hid] at he
  cases he
  exact ⟨rfl, hcap, hmx, .inr ⟨w.heap.size, ds, e, fz, put_blk_eq _ _ _, by rw [put_off_eq], hnew, by rw [put_off_eq]; omega⟩⟩

theorem buildSlice_sound (T : TOK P tt) (wf : WF w h c) {t len : Nat} {parts : Array (Nat × Operand)} {ρ : Operand → V} {ρ' : Operand → Value} (hρ : ∀ x, Rep w h c (ρ x) (ρ' x)) {k : AObj → (Nat → V) → Option R} {r : R}
    (hk : opA tt (.buildSlice t len parts) ρ k = some r) : ∃ ob mk, k ob mk = some r ∧ ob ≠ .free ∧ Allocs P w h c (Instr.buildSlice t len (parts.map fun (i, x) => (i, ρ' x))) ob mk := by
  simp only [opA] at hk
  split at hk
  · rename_i e hd
    split at hk
    · cases hk
    · rename_i hc0
      simp only [Bool.or_eq_true, Bool.not_eq_true', decide_eq_true_eq, not_or, Bool.not_eq_false, Nat.not_lt] at hc0
      obtain ⟨⟨hsz, hsm⟩, hok⟩ := hc0
      have hu := und_of T hd
      simp only [TD.Is] at hu
      have hse := T.sizeOf (w := w) hok
      obtain ⟨z, hz, hzs, hzr⟩ := T.zero (w := w) hok
      have hparts := parts_map hρ parts.toList
      have hmade := made_rep (w := w) (h := h) (c := c) (hzr w h c) len
      rw [hzs] at hmade
      have key : ∀ cs, fillV ((List.replicate len (tt.at e).zero).flatten) (parts.toList.map fun (i, x) => (i * (tt.at e).size, (tt.at e).size, ρ x)) = some cs →
          ∃ ds : Array Value, RepL w h c cs ds.toList ∧ ds.size = len * (tt.at e).size ∧
            (Instr.buildSlice t len (parts.map fun (i, x) => (i, ρ' x))).run P w = .ok (.slice (some ⟨w.heap.size, 0, none⟩) len len) (w.alloc (.cells ds e)) := by
        intro cs hf
        obtain ⟨out', h1, h2, h3⟩ := fill_sound (w := w) (h := h) (c := c) (fun i => some (i * (tt.at e).size, (tt.at e).size)) (parts.toList.map fun p => (p.1, ρ p.2)) (parts.toList.map fun p => (p.1, ρ' p.2))
          ((List.replicate len (tt.at e).zero).flatten) (madeCells z.cells (len * (tt.at e).size)) cs hparts.1 hparts.2 hmade (by
            rw [← hf, List.map_map]
            congr 1) (by rw [size_madeCells]; omega)
        rw [size_madeCells] at h3
        refine ⟨out', h2, h3, ?_⟩
        have hlim : ¬ (len * (tt.at e).size > 2 ^ 24) := by omega
        simp only [Instr.buildSlice, Sem.run_bind, run_underlying hu, Result.andThen_ok, hse, if_neg hlim]
        by_cases hl0 : len * (tt.at e).size = 0
        · simp only [hl0, if_true, Array.toList_map]
          have e0 : madeCells z.cells (len * (tt.at e).size) = #[] := by rw [hl0]; simp [madeCells]
          rw [e0] at h1
          simp only [Array.range_zero', Array.map_empty]
          rw [h1]
          simp [newRow]
        · simp only [if_neg hl0, Sem.run_bind, hz, Result.andThen_ok, Sem.run_pure, Array.toList_map]
          have e1 : (Array.range (len * (tt.at e).size)).map (z.cells[· % z.cells.size]!) = madeCells z.cells (len * (tt.at e).size) := rfl
          rw [e1, h1]
          simp [newRow]
      split at hk
      · rename_i cs T' hf hty
        split at hk
        · rename_i hT
          obtain ⟨ds, g1, g2, g3⟩ := key cs hf
          split at hk
          · rename_i hrow
            simp only [Bool.and_eq_true, decide_eq_true_eq] at hrow
            obtain ⟨_, rfl⟩ := hrow
            have hds : ds.size = 0 := by omega
            have hnew := heap_alloc_new w (.cells ds e)
            exact ⟨_, _, hk, by simp, alloc_row (T := T') (l := []) (cap := 0) wf (below_alloc w _) hnew (fun x _ => frozen_none hnew x) (Nat.le_refl _) (by unfold mx; omega) (by omega) (fun n j x v hx => by simp at hx) g3⟩
          split at hk
          · rename_i l hl
            rw [← hT] at hl g2
            exact ⟨_, _, hk, by simp, alloc_slice wf g1 hl g2 (by unfold mx; have : len ≤ len * (tt.at e).size := Nat.le_mul_of_pos_right _ (by omega); omega) e g3⟩
          · exact ⟨_, _, hk, by simp, alloc_vslice wf (sz := (tt.at e).size) g1 (by have := g1.1; simp at this; omega) (by unfold mx; have : len ≤ len * (tt.at e).size := Nat.le_mul_of_pos_right _ (by omega); omega) e g3⟩
        · cases hk
      · rename_i cs hf hty
        obtain ⟨ds, g1, g2, g3⟩ := key cs hf
        exact ⟨_, _, hk, by simp, alloc_vslice wf (sz := (tt.at e).size) g1 (by have := g1.1; simp at this; omega) (by unfold mx; have : len ≤ len * (tt.at e).size := Nat.le_mul_of_pos_right _ (by omega); omega) e g3⟩
      · cases hk
  · cases hk

theorem allocs_run {o : Oper} {ρ' : Operand → Value} {s : Sem Value} {ob : AObj} {mk : Nat → V} (he : execOp ρ' o = (do pure (.value (← s)))) (ha : Allocs P w h c s ob mk) :
    ∀ id, id < h.length → h.at id = .free → ∃ v' w' c', (execOp ρ' o).run P w = .ok (.value v') w' ∧ WF w' (h.set id ob) c' ∧ Ext w h c w' (h.set id ob) c' ∧ Rep w' (h.set id ob) c' (mk id) v' := by
  intro id hid hf
  obtain ⟨v', w', c', h1, h2⟩ := ha id hid hf
  exact ⟨v', w', c', by rw [he]; simp [h1], h2⟩

theorem run_makeSlice_tt (T : TOK P tt) {t e : Nat} (hd : (tt.at t).d = .slice e) (hok : tt.ok e = true) {i j : IntKind} {a : Int} (h0 : 0 ≤ a) (hb : a * (tt.at e).bytes ≤ 140737488355328) (hmx : a ≤ 9223372036854775807) :
    ∃ z : Value, z.cells.size = (tt.at e).size ∧ (∀ (w : World) (h : Heap) (c : Cfg), RepL w h c (tt.at e).zero z.cells.toList) ∧
      (Instr.makeSlice t (.int i a) (.int j a)).run P w = .ok (.slice (some ⟨w.heap.size, 0, none⟩) a.toNat a.toNat) (w.alloc (.cells (madeCells z.cells (a.toNat * (tt.at e).size)) e)) := by
  have hu := und_of T hd
  simp only [TD.Is] at hu
  obtain ⟨inf, z, hi, hs, hby, hz, hzs, hr⟩ := T.info e hok
  have hrun := run_make (P := P) w t e inf z hu hi hz i j a a h0 (Int.le_refl _) (by rw [hby, Int.mul_comm]; omega) hmx
  rw [hs] at hrun
  exact ⟨z, by omega, hr, hrun⟩

theorem zero_made {z : Array Value} (n : Nat) {i j : Nat} (hi : i < n) (hj : j < z.size) : (madeCells z (n * z.size))[i * z.size + j]? = some (z[j]) := by
  have hlt : i * z.size + j < n * z.size := by
    have := Nat.mul_le_mul_right z.size hi
    rw [Nat.succ_mul] at this; omega
  simp only [madeCells, Array.getElem?_map]
  rw [Array.getElem?_eq_getElem (by simpa using hlt)]
  simp only [Array.getElem_range, Option.map_some]
  congr 1
  rw [Nat.mul_comm, Nat.mul_add_mod, Nat.mod_eq_of_lt hj, getElem!_pos z j hj]

theorem run_stringToBytes (e : TypeId) (s : ByteArray) : ∃ (cap : Nat) (w' : World), (Conv.stringToBytes e s).run P w = .ok (.slice (some ⟨w.heap.size, 0, none⟩) s.size cap) w' ∧ Below w.heap.size w w' ∧ s.size ≤ cap ∧ (s.size ≤ mx → cap ≤ mx) ∧
    ∃ ds : Array Value, w'.heap[w.heap.size]? = some (.cells ds e (ds.size, ds.size + 1)) ∧ ds.size = cap ∧ ∀ (i : Nat) (b : UInt8), s.data.toList[i]? = some b → ds[i]? = some (.int .u8 b.toNat) := by
  let cap := (Question.appendCap s.size 0 e).cut (w.tape w.drawn (.appendCap s.size 0 e))
  have hcap : s.size ≤ cap := by simp only [cap, Question.cut]; omega
  let ds : Array Value := (s.data.map fun b => Value.int .u8 b.toNat) ++ Array.replicate (cap - s.size) (.int .u8 0)
  have hds : ds.size = cap := by
    simp only [ds, Array.size_append, Array.size_map, Array.size_replicate]
    have : s.data.size = s.size := rfl
    omega
  refine ⟨cap, (w.drew.alloc (.cells ds e)).freeze ⟨w.heap.size, ds.size, none⟩ 1, ?_, ?_, hcap, fun hs => ?_, ds, ?_, hds, fun i b hb => ?_⟩
  · have hf : (Question.appendCap s.size 0 e).forced = false := rfl
    simp only [Conv.stringToBytes, Sem.run_bind, run_choose, hf]
    simp only [Bool.false_eq_true, if_false, Result.andThen_ok, newRow, Sem.run_bind, run_newObj, Sem.run_pure]
    have hsh : (w.drew.alloc (.cells ds e)).shape? w.heap.size = some (e, ds.size) := by
      have := heap_alloc_new w.drew (.cells ds e)
      simp only [World.shape?]
      rw [show (w.drew.alloc (.cells ds e)).heap[w.heap.size]? = some (.cells ds e) from this]
    show ((markStringish ⟨w.heap.size, 0, none⟩).run P (w.drew.alloc (.cells ds e))).andThen _ = _
    simp only [markStringish, Sem.run_bind, run_shape, hsh, Result.andThen_ok, run_freeze]
    rfl
  · refine ⟨rfl, rfl, rfl, ?_, fun k hk => ?_⟩
    · have : ((w.drew.alloc (.cells ds e)).freeze ⟨w.heap.size, ds.size, none⟩ 1).heap.size = w.heap.size + 1 := by simp [World.freeze]
      omega
    · simp only [World.freeze]
      rw [if_neg (by decide)]
      simp only [Array.getElem?_modify]
      rw [if_neg (by show ¬ w.heap.size = k; omega)]
      exact Below.heap_alloc w.drew _ k hk
  · have hlt : w.tape w.drawn (Question.appendCap s.size 0 e) % (2 ^ 63 - s.size) < 2 ^ 63 - s.size := Nat.mod_lt _ (by unfold mx at hs; omega)
    simp only [cap, Question.cut]
    unfold mx at hs ⊢
    omega
  · simp only [World.freeze]
    rw [if_neg (by decide)]
    simp only [Array.getElem?_modify]
    have := heap_alloc_new w.drew (.cells ds e)
    rw [show (w.drew.alloc (.cells ds e)).heap[w.heap.size]? = some (.cells ds e) from this]
    simp
  · have hlt : i < s.data.size := by
      have := (List.getElem?_eq_some_iff.1 hb).1
      simpa using this
    simp only [ds]
    rw [Array.getElem?_append_left (by simpa using hlt)]
    simp only [Array.getElem?_map]
    have : s.data[i]? = some b := by simpa using hb
    rw [this]; rfl

/-- WHATEVER ALLOCATES IS SOUND. -/
theorem opA_sound (T : TOK P tt) (wf : WF w h c) {o : Oper} {ρ : Operand → V} {ρ' : Operand → Value} (hρ : ∀ x, Rep w h c (ρ x) (ρ' x)) {k : AObj → (Nat → V) → Option R} {r : R}
    (hk : opA tt o.op ρ k = some r) : ∃ ob mk, k ob mk = some r ∧ ob ≠ .free ∧ ∀ id, id < h.length → h.at id = .free →
      ∃ v' w' c', (execOp ρ' o).run P w = .ok (.value v') w' ∧ WF w' (h.set id ob) c' ∧ Ext w h c w' (h.set id ob) c' ∧ Rep w' (h.set id ob) c' (mk id) v' := by
  obtain ⟨dst, op, type, pos, after, guard⟩ := o
  cases op <;> (try simp only [opA] at hk) <;> try (first | cases hk)
  case alloc t =>
    split at hk
    · rename_i hok
      obtain ⟨z, hz, hzs, hzr⟩ := T.zero (w := w) hok
      exact ⟨_, _, hk, by simp, allocs_run (s := Instr.alloc t true (.tuple #[])) rfl (alloc_cells wf (hzr w h c) t (by simp [Instr.alloc, hz, newVar, newRow]))⟩
    · cases hk
  case box t x =>
    split at hk
    · rename_i cs hcs
      split at hk
      · obtain ⟨rv, _, _⟩ := flatK_sound (hρ x) hcs
        exact ⟨_, _, hk, by simp, allocs_run (s := Instr.box t (ρ' x)) rfl (alloc_cells wf rv t (by simp [Instr.box, newVar, newRow]))⟩
      · cases hk
    · cases hk
  case buildSlice t len parts =>
    obtain ⟨ob, mk, h1, h0, h2⟩ := buildSlice_sound T wf hρ hk
    exact ⟨ob, mk, h1, h0, allocs_run rfl h2⟩
  case makeSlice t n cc =>
    split at hk
    · rename_i e i a j b hd hn hc
      split at hk
      · rename_i T' hty
        split at hk
        · rename_i z hz
          split at hk
          · rename_i hcond
            simp only [Bool.and_eq_true, decide_eq_true_eq] at hcond
            obtain ⟨hsz, hok⟩ := hcond
            obtain ⟨hb, hk2⟩ := chk_some hk
            clear hk
            simp only [Bool.and_eq_true, decide_eq_true_eq] at hb
            obtain ⟨⟨⟨h0, rfl⟩, hby⟩, hmx⟩ := hb
            have rn := hρ n
            have rc := hρ cc
            rw [hn] at rn; rw [hc] at rc
            obtain ⟨en, hn1, hn2⟩ := rn.int_inv
            obtain ⟨ec, hc1, hc2⟩ := rc.int_inv
            obtain ⟨zv, g1, g2, g3⟩ := run_makeSlice_tt (w := w) (i := i) (j := j) T hd hok h0 hby (by omega)
            have hnew := heap_alloc_new w (.cells (madeCells zv.cells (a.toNat * (tt.at e).size)) e)
            have hs : (Instr.makeSlice t (ρ' n) (ρ' cc)).run P w = .ok (.slice (some ⟨w.heap.size, 0, none⟩) (List.replicate a.toNat z).length a.toNat) (w.alloc (.cells (madeCells zv.cells (a.toNat * (tt.at e).size)) e)) := by
              rw [en, ec, g3]; simp
            have := alloc_row (T := T') (l := List.replicate a.toNat z) wf (below_alloc w _) hnew (fun x _ => frozen_none hnew x) (by simp) (by unfold mx; omega) (by rw [size_madeCells, hsz]; exact Nat.le_refl _) (fun n' j' x v hx hv => by
              simp only [List.getElem?_replicate] at hx
              split at hx
              · rename_i hlt
                cases hx
                have hj : j' < T'.sz := by rw [← T'.cells_len z]; exact (List.getElem?_eq_some_iff.1 hv).1
                have hj' : j' < zv.cells.size := by omega
                have hm := zero_made (z := zv.cells) a.toNat hlt hj'
                rw [g1] at hm
                rw [hsz]
                refine ⟨_, hm, fun w h c => ?_⟩
                exact (dec_rep hz (g2 w h c)).2 j' v _ hv (by simp [hj'])
              · cases hx) hs
            have e2 : (List.replicate a.toNat z).length = a.toNat := List.length_replicate
            rw [e2] at this
            exact ⟨_, _, hk2, by simp, allocs_run (o := ⟨dst, .makeSlice t n cc, type, pos, after, guard⟩) rfl this⟩
          · cases hk
        · cases hk
      · cases hk
    · cases hk
  case convert s d x =>
    split at hk
    · rename_i e t hs hd hx
      split at hk
      · rename_i he
        have rx := hρ x
        rw [hx] at rx
        obtain ⟨bs, hv, rfl, hl⟩ := rx.str_inv
        have us := und_of T hs
        have ud := und_of T hd
        have ue := und_of T he
        simp only [TD.Is] at us ud ue
        obtain ⟨cap, w', g1, g2, g3, g4, ds, g5, g6, g7⟩ := run_stringToBytes (P := P) (w := w) e bs
        obtain ⟨l, hl'⟩ : ∃ l : List Int, l = bs.data.toList.map fun b => (b.toNat : Int) := ⟨_, rfl⟩
        have hlen : l.length = bs.size := by rw [hl', List.length_map, size_data]
        have hget : ∀ (n : Nat) (z : Int), l[n]? = some z → ∃ b : UInt8, bs.data.toList[n]? = some b ∧ z = b.toNat := fun n z hz => by
          rw [hl', List.getElem?_map] at hz
          cases hb : bs.data.toList[n]? with
          | none => rw [hb] at hz; cases hz
          | some b => rw [hb] at hz; simp at hz; exact ⟨b, rfl, hz.symm⟩
        have hrun : (convert s d (ρ' x)).run P w = .ok (.slice (some ⟨w.heap.size, 0, none⟩) l.length cap) w' := by
          rw [hv, hlen]
          simp only [convert, Sem.run_bind, run_underlying us, run_underlying ud, run_underlying ue, Result.andThen_ok, g1]
        have := alloc_row (T := .int .u8) (l := l) wf g2 g5 (fun y hy => by
            simp only [World.frozen?, g5]
            simp; omega) (cap := cap) (by show l.length ≤ cap; omega) (g4 hl) (by simp [Ty.sz]; omega) (fun n j y v hy hv => by
            obtain ⟨b, h1, rfl⟩ := hget n y hy
            have hj : j < 1 := by
              have := (List.getElem?_eq_some_iff.1 hv).1
              simpa [Ty.cells] using this
            obtain rfl : j = 0 := by omega
            simp [Ty.cells] at hv
            subst hv
            exact ⟨_, by simpa [Ty.sz] using g7 n b h1, fun w h c => .int (has_byte _ (UInt8.toNat_lt b))⟩) hrun
        have e2 : List.length (α := Int) l = bs.data.toList.length := by rw [hlen, size_data]
        refine ⟨.row (.int .u8) l, fun i => .row i (List.length (α := Int) l), ?_, by simp, allocs_run (o := ⟨dst, .convert s d x, type, pos, after, guard⟩) rfl this⟩
        rw [e2, hl']; exact hk
      · cases hk
    · cases hk
  case range t x =>
    split at hk
    · rename_i s hd hx
      have rx := hρ x
      rw [hx] at rx
      obtain ⟨bs, hv, rfl, hl⟩ := rx.str_inv
      have hu := und_of T hd
      simp only [TD.Is] at hu
      refine ⟨_, _, hk, by simp, fun id hid hf => ?_⟩
      have hb := below_alloc w (.stringIter bs 0)
      have hnb : ∀ b, some w.heap.size = some b → w.heap.size ≤ b := by intro b hb; cases hb; exact Nat.le_refl _
      have x' := new_ext (h := h) (c := c) hb hf (.iter bs.data.toList 0) (no := 0) hnb
      have hob : ObjOK (w.alloc (.stringIter bs 0)) (h.set id (.iter bs.data.toList 0)) (c.put id (some w.heap.size) 0) id (.iter bs.data.toList 0) :=
        ⟨w.heap.size, bs, put_blk_eq _ _ _, heap_alloc_new w _, rfl, hl⟩
      refine ⟨.pointer (some ⟨w.heap.size, 0, none⟩), _, _, ?_, new_wf wf hb hid hf hnb hob, x', .ptr (used_set hid (by simp)) ⟨w.heap.size, rfl, fun _ => put_blk_eq _ _ _⟩⟩
      simp [execOp, hv, Instr.range, run_underlying hu]
    · cases hk
end
end Go.Yard
