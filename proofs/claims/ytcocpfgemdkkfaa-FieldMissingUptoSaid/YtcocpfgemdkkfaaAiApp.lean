/-
  The abstract interpreter, part 17: append, the memory side. Own work.
-/
import Derived.Test.YtcocpfgemdkkfaaAiOpStore
import Derived.Laws.Append
namespace Go.Yard
open Go.RowKit

section
variable {P : Program} {tt : TTab} {w w' : World} {h : Heap} {c : Cfg} {R : Type}

/-! ### the cells of a list of elements -/
def cellsL (T : Ty) : List T.den → List V
  | [] => []
  | x :: l => T.cells x ++ cellsL T l

theorem cellsL_len (T : Ty) : ∀ l : List T.den, (cellsL T l).length = l.length * T.sz
  | [] => by simp [cellsL]
  | x :: l => by simp only [cellsL, List.length_append, T.cells_len, cellsL_len T l, List.length_cons, Nat.succ_mul]; omega

theorem cellsL_append (T : Ty) : ∀ l m : List T.den, cellsL T (l ++ m) = cellsL T l ++ cellsL T m
  | [], m => rfl
  | x :: l, m => by simp only [List.cons_append, cellsL, cellsL_append T l m, List.append_assoc]

theorem cellsL_get (T : Ty) : ∀ (l : List T.den) (i j : Nat) (x : T.den), l[i]? = some x → j < T.sz → (cellsL T l)[i * T.sz + j]? = (T.cells x)[j]?
  | [], i, j, x, hx, _ => by simp at hx
  | y :: l, 0, j, x, hx, hj => by
    simp at hx; subst hx
    simp only [cellsL, Nat.zero_mul, Nat.zero_add]
    rw [List.getElem?_append_left (by rw [T.cells_len]; exact hj)]
  | y :: l, i + 1, j, x, hx, hj => by
    simp at hx
    simp only [cellsL]
    rw [List.getElem?_append_right (by rw [T.cells_len, Nat.succ_mul]; omega), T.cells_len]
    rw [show (i + 1) * T.sz + j - T.sz = i * T.sz + j from by rw [Nat.succ_mul]; omega]
    exact cellsL_get T l i j x hx hj

theorem cells_one (T : Ty) (x : T.den) : (T.cells x).all V.one = true := by cases T <;> rfl
theorem cellsL_one (T : Ty) : ∀ l : List T.den, (cellsL T l).all V.one = true
  | [] => rfl
  | x :: l => by simp only [cellsL, List.all_append, cells_one, cellsL_one T l, Bool.and_true]

theorem decAll_rep {T : Ty} {n : Nat} : ∀ {cs : List V} {ds : List Value} {l : List T.den}, cs.length = n * T.sz → RepL w h c cs ds → decAll T (chunks T.sz n cs) = some l → RepL w h c (cellsL T l) ds := by
  induction n with
  | zero =>
    intro cs ds l hl r hd
    simp [chunks, decAll] at hd
    subst hd
    have h0 : cs = [] := List.eq_nil_of_length_eq_zero (by simpa using hl)
    subst h0
    exact r
  | succ n ih =>
    intro cs ds l hl r hd
    simp only [chunks, decAll] at hd
    split at hd
    · rename_i x xs h1 h2
      cases hd
      rw [Nat.succ_mul] at hl
      have r1 := dec_rep h1 (r.take T.sz)
      have r2 := ih (by simp; omega) (r.drop T.sz) h2
      have := r1.append r2
      rw [List.take_append_drop] at this
      exact this
    · cases hd

/-- The cells of a slice that is read. -/
theorem sl_cells {T : Ty} {l : List T.den} {t : Tok} {A : Option Addr} {n cap : Nat} (r : Rep w h c (.sl T l t) (.slice A n cap)) :
    ∃ ds, RepL w h c (cellsL T l) ds ∧ (l ≠ [] → ∃ b o, A = some ⟨b, o, none⟩ ∧ CellsAt w b o ds ∧ ∀ x, o ≤ x → x < o + l.length * T.sz → Free h c b x) := by
  cases r with
  | sl f hcap hmx hc hr hnil hown =>
    refine ⟨(List.range (l.length * T.sz)).map fun k => f (k / T.sz) (k % T.sz), ⟨by simp [cellsL_len], fun k v d hv hd => ?_⟩, fun hne => ?_⟩
    · have hk : k < l.length * T.sz := by rw [← cellsL_len]; exact (List.getElem?_eq_some_iff.1 hv).1
      have hpos := T.sz_pos
      have hi : k / T.sz < l.length := (Nat.div_lt_iff_lt_mul hpos).2 hk
      have hj := Nat.mod_lt k hpos
      have e : k / T.sz * T.sz + k % T.sz = k := by rw [Nat.mul_comm]; exact Nat.div_add_mod _ _
      have := cellsL_get T l (k / T.sz) (k % T.sz) _ (List.getElem?_eq_getElem hi) hj
      rw [e] at this
      rw [this] at hv
      simp only [List.getElem?_map, List.getElem?_range hk, Option.map_some, Option.some.injEq] at hd
      subst hd
      exact hr _ _ _ v (List.getElem?_eq_getElem hi) hv
    · have hpos : 0 < l.length := List.length_pos_iff.2 hne
      obtain ⟨b, o, rfl, _⟩ := hc 0 0 hpos T.sz_pos
      have all : ∀ k, k < l.length * T.sz → w.cell? ⟨b, o + k, none⟩ = some (f (k / T.sz) (k % T.sz)) ∧ Free h c b (o + k) := by
        intro k hk
        have hi : k / T.sz < l.length := (Nat.div_lt_iff_lt_mul T.sz_pos).2 hk
        obtain ⟨b', o', e', g1, g2⟩ := hc _ _ hi (Nat.mod_lt k T.sz_pos)
        cases e'
        have e : k / T.sz * T.sz + k % T.sz = k := by rw [Nat.mul_comm]; exact Nat.div_add_mod _ _
        rw [Nat.add_assoc, e] at g1 g2
        exact ⟨g1, g2⟩
      refine ⟨b, o, rfl, fun k d hd => ?_, fun x h1 h2 => ?_⟩
      · simp only [List.getElem?_map] at hd
        by_cases hk : k < l.length * T.sz
        · rw [List.getElem?_range hk] at hd
          simp at hd; subst hd
          exact (all k hk).1
        · rw [List.getElem?_eq_none (by simp; omega)] at hd; cases hd
      · have := (all (x - o) (by omega)).2
        rw [show o + (x - o) = x from by omega] at this
        exact this

/-- A slice out of its cells. -/
theorem sl_of_cells {T : Ty} {l : List T.den} {t : Tok} {A : Option Addr} {cap : Nat} {ds : List Value} (r : RepL w h c (cellsL T l) ds) (hcap : l.length ≤ cap) (hmx : cap ≤ mx)
    (hA : l ≠ [] → ∃ b o, A = some ⟨b, o, none⟩ ∧ CellsAt w b o ds ∧ ∀ x, o ≤ x → x < o + l.length * T.sz → Free h c b x) (hnil : t = .nil → A = none ∧ cap = 0)
    (hown : ∀ i, t = .own i → Used h i ∧ (h.at i = .tok →
        (c.blk i = none ∧ A = none ∧ cap = 0) ∨ ∃ b o arr e fz, c.blk i = some b ∧ A = some ⟨b, o, none⟩ ∧ c.off i = o + l.length * T.sz ∧
          w.heap[b]? = some (.cells arr e fz) ∧ o + cap * T.sz ≤ arr.size)) : Rep w h c (.sl T l t) (.slice A l.length cap) := by
  have hlen := r.1
  rw [cellsL_len] at hlen
  refine .sl (fun i j => ds.getD (i * T.sz + j) undef) hcap hmx (fun i j hi hj => ?_) (fun i j x v hx hv => ?_) hnil hown
  · have hk : i * T.sz + j < l.length * T.sz := by
      have := Nat.mul_le_mul_right T.sz hi
      rw [Nat.succ_mul] at this; omega
    obtain ⟨b, o, e, h1, h2⟩ := hA (by intro e; subst e; simp at hi)
    refine ⟨b, o, e, ?_, h2 _ (by omega) (by omega)⟩
    rw [Nat.add_assoc]
    refine h1 _ _ ?_
    rw [List.getElem?_eq_getElem (by omega)]
    simp [List.getD, List.getElem?_eq_getElem (show i * T.sz + j < ds.length by omega)]
  · have hj : j < T.sz := by rw [← T.cells_len x]; exact (List.getElem?_eq_some_iff.1 hv).1
    have hi : i < l.length := (List.getElem?_eq_some_iff.1 hx).1
    have hk : i * T.sz + j < ds.length := by
      have := Nat.mul_le_mul_right T.sz hi
      rw [Nat.succ_mul] at this; omega
    have := cellsL_get T l i j x hx hj
    refine r.2 (i * T.sz + j) v _ (this.trans hv) ?_
    rw [List.getElem?_eq_getElem hk]
    simp [List.getD, List.getElem?_eq_getElem hk]

/-! ### append -/
theorem drew_heap (w : World) : w.drew.heap = w.heap := rfl

theorem run_firstCells {b o n sz : Nat} {cap : Nat} {ds : List Value} (hl : ds.length = n * sz) (hc : CellsAt w b o ds) : (Builtin.firstCells sz n (.slice (some ⟨b, o, none⟩) n cap)).run P w = .ok ds.toArray w := by
  have := run_loadCells_list (P := P) w ⟨b, o, none⟩ ds (fun j v hv => by rw [add_off]; exact hc j v hv)
  rw [hl] at this
  simpa [Builtin.firstCells] using this

theorem run_firstCells0 {A : Option Addr} {n sz cap : Nat} (hn : n * sz = 0) : (Builtin.firstCells sz n (.slice A n cap)).run P w = .ok #[] w := by
  cases A with
  | none => simp [Builtin.firstCells]
  | some a =>
    simp only [Builtin.firstCells, hn]
    exact run_loadCells_list (P := P) w a [] (fun j v hv => by simp at hv)

/-- What append does, in memory. -/
theorem run_append_gen (T : TOK P tt) {t xt e : Nat} (ht : (tt.at t).d = .slice e) (hok : tt.ok e = true) (hxt : (∃ e', P.underlying xt = some (.slice e')) ∨ P.underlying xt = some .string)
    {A : Option Addr} {n cap m : Nat} {x : Value} {olds news : List Value} (ty : Nat)
    (hlx : (Builtin.lenOf x).run P w = .ok m w) (hnews : ∀ W : World, W.heap = w.heap → (Builtin.firstCells (tt.at e).size m x).run P W = .ok news.toArray W) (hnl : news.length = m * (tt.at e).size) (h1 : Ones news)
    (holds : olds.length = n * (tt.at e).size) (hold : n ≠ 0 → ∃ b o, A = some ⟨b, o, none⟩ ∧ CellsAt w b o olds) (hncap : n ≤ cap) (hcapmx : cap ≤ mx)
    (hA : (A = none ∧ cap = 0) ∨ ∃ b o arr el fz, A = some ⟨b, o, none⟩ ∧ w.heap[b]? = some (.cells arr el fz) ∧ o + cap * (tt.at e).size ≤ arr.size ∧ ∀ y, o + n * (tt.at e).size ≤ y → y < arr.size → w.frozen? ⟨b, y, none⟩ = false)
    (hroom : (n + m) * (tt.at e).bytes ≤ 140737488355328) (hmx : n + m ≤ mx) :
    (n + m ≤ cap ∧ A = none ∧ m = 0 ∧ (Builtin.append_ #[t, xt] ty #[.slice A n cap, x]).run P w = .ok (.slice A (n + m) cap) w) ∨
    (n + m ≤ cap ∧ ∃ b o arr el fz w' cur', A = some ⟨b, o, none⟩ ∧ w.heap[b]? = some (.cells arr el fz) ∧ o + cap * (tt.at e).size ≤ arr.size ∧
      (Builtin.append_ #[t, xt] ty #[.slice A n cap, x]).run P w = .ok (.slice A (n + m) cap) w' ∧ Wrote w w' b cur' el fz ∧
      cur'.toList = arr.toList.take (o + n * (tt.at e).size) ++ news ++ arr.toList.drop (o + n * (tt.at e).size + news.length)) ∨
    (∃ newCap ds, n + m ≤ newCap ∧ newCap ≤ mx ∧ ds.size = newCap * (tt.at e).size ∧ ds.toList.take ((n + m) * (tt.at e).size) = olds ++ news ∧
      (Builtin.append_ #[t, xt] ty #[.slice A n cap, x]).run P w = .ok (.slice (some ⟨w.heap.size, 0, none⟩) (n + m) newCap) (w.drew.alloc (.cells ds e))) := by
  have hu := und_of T ht
  simp only [TD.Is] at hu
  have hs := T.sizeOf (w := w) hok
  obtain ⟨inf, z, hi, hsi, hby, hzv, hzs, hzr⟩ := T.info e hok
  have hx : ∃ d, P.underlying xt = some d ∧ ((∃ e', d = .slice e') ∨ d = .string) := by
    rcases hxt with ⟨e', hx⟩ | hx
    · exact ⟨_, hx, .inl ⟨e', rfl⟩⟩
    · exact ⟨_, hx, .inr rfl⟩
  by_cases hfit : n + m ≤ cap
  · rcases hA with ⟨rfl, rfl⟩ | ⟨b, o, arr, el, fz, rfl, hb, hsz, hfz⟩
    · have hm0 : m = 0 := by omega
      subst hm0
      refine .inl ⟨hfit, rfl, rfl, ?_⟩
      have hn0 : news = [] := List.eq_nil_of_length_eq_zero (by simpa using hnl)
      have hf := hnews w rfl
      subst hn0
      rcases hxt with ⟨e', hx⟩ | hx <;>
        simp [Builtin.append_, run_underlying hu, run_underlying hx, hs, hlx, hf, show n = 0 from by omega]
    · refine .inr (.inl ⟨hfit, b, o, arr, el, fz, ?_⟩)
      have hf := hnews w rfl
      obtain ⟨w', cur', k1, k2, k3⟩ := run_storeCells_gen (P := P) b (o + n * (tt.at e).size) el fz news 0 arr w hb (by
        have : (n + m) * (tt.at e).size ≤ cap * (tt.at e).size := Nat.mul_le_mul_right _ hfit
        rw [Nat.add_mul] at this; omega) (fun y h1 h2 => hfz y h1 (by
        have : (n + m) * (tt.at e).size ≤ cap * (tt.at e).size := Nat.mul_le_mul_right _ hfit
        rw [Nat.add_mul] at this; omega)) h1
      refine ⟨w', cur', rfl, hb, hsz, ?_, k2, by simpa using k3⟩
      rcases hxt with ⟨e', hx⟩ | hx <;>
        simp [Builtin.append_, run_underlying hu, run_underlying hx, hs, hlx, hf, hfit, add_off, k1]
  · refine .inr (.inr ?_)
    let newCap := (Question.appendCap (n + m) cap e).cut (w.tape w.drawn (.appendCap (n + m) cap e))
    have hge : n + m ≤ newCap := by simp only [newCap, Question.cut]; omega
    have hlt : newCap ≤ mx := by
      have hlt : w.tape w.drawn (Question.appendCap (n + m) cap e) % (2 ^ 63 - (n + m)) < 2 ^ 63 - (n + m) := Nat.mod_lt _ (by unfold mx at hmx; omega)
      simp only [newCap, Question.cut]
      unfold mx at hmx ⊢
      omega
    let ds : Array Value := olds.toArray ++ news.toArray ++ Builtin.zeroCells z.cells (newCap - (n + m))
    have hzl : (Builtin.zeroCells z.cells (newCap - (n + m))).size = (newCap - (n + m)) * (tt.at e).size := by
      simp [Builtin.zeroCells]; rw [hzs, hsi]
    have hds : ds.size = newCap * (tt.at e).size := by
      simp only [ds, Array.size_append, List.size_toArray, holds, hnl, hzl]
      rw [← Nat.add_mul, ← Nat.add_mul]
      congr 1; omega
    refine ⟨newCap, ds, hge, hlt, hds, ?_, ?_⟩
    · have : ds.toList = (olds ++ news) ++ (Builtin.zeroCells z.cells (newCap - (n + m))).toList := by simp [ds]
      rw [this, List.take_append_of_le_length (by simp [holds, hnl, Nat.add_mul]), List.take_of_length_le (by simp [holds, hnl, Nat.add_mul])]
    · have hfo : (Builtin.firstCells (tt.at e).size n (.slice A n cap)).run P w.drew = .ok olds.toArray w.drew := by
        by_cases hn0 : n = 0
        · subst hn0
          have : olds = [] := List.eq_nil_of_length_eq_zero (by simpa using holds)
          subst this
          exact run_firstCells0 (by simp)
        · obtain ⟨b, o, rfl, hc⟩ := hold hn0
          exact run_firstCells holds hc
      have hf := hnews w.drew rfl
      have h48' : ¬ (281474976710656 < Builtin.nextslicecap (n + m) cap * (tt.at e).bytes) := by
        have := growslice_fits (need := n + m) (old := cap) (by omega) hroom
        omega
      have h63' : ¬ (9223372036854775807 < ((n : Int) + (m : Int))) := by unfold mx at hmx; omega
      have hsd : (sizeOf e).run P w.drew = .ok (tt.at e).size w.drew := T.sizeOf hok
      rcases hxt with ⟨e', hx⟩ | hx <;>
        simp [Builtin.append_, run_underlying hu, run_underlying hx, hs, hlx, hfit, h63', typeInfo, hi, hby, h48', Question.forced, hfo, hf, zeroValue, hzv, newRow, ds, newCap]
end
end Go.Yard
