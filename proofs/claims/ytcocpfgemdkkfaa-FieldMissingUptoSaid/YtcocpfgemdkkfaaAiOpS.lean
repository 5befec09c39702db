/-
  The abstract interpreter, part 7: every operation that asks the frame alone is sound. Own work.
-/
import Derived.Test.YtcocpfgemdkkfaaAiOpQ
namespace Go.Yard
open Go.RowKit

section
variable {P : Program} {tt : TTab} {w : World} {h : Heap} {c : Cfg} {R : Type}

/-! ### flat values -/
theorem one_cell {v : V} {d : Value} (r : Rep w h c v d) (h1 : v.one = true) : d.oneCell' = true ∧ d.cells = #[d] := by
  cases r <;> simp_all [V.one, Value.oneCell', Value.cells]
  case ptr hi hv => obtain ⟨b, rfl, _⟩ := hv; simp
  case rptr hi hv => obtain ⟨b, rfl, _⟩ := hv; simp
  case row hi _ hv => obtain ⟨A, cap, rfl, _, _⟩ := hv; simp
  case map hi hv => obtain ⟨b, rfl, _⟩ := hv; simp

def Ones (ds : List Value) : Prop := ∀ d ∈ ds, d.oneCell' = true

theorem ones_of {cs : List V} {ds : List Value} (r : RepL w h c cs ds) (h1 : cs.all V.one = true) : Ones ds := by
  intro d hd
  obtain ⟨j, hj, rfl⟩ := List.mem_iff_getElem.1 hd
  have hj' : j < cs.length := by have := r.1; omega
  have := r.2 j cs[j] ds[j] (List.getElem?_eq_getElem hj') (List.getElem?_eq_getElem hj)
  exact (one_cell this (by simpa using List.all_eq_true.1 h1 _ (List.getElem_mem hj'))).1

theorem flatK_sound {v : V} {d : Value} (r : Rep w h c v d) {cs : List V} (hf : flatK v = some cs) : RepL w h c cs d.cells.toList ∧ Ones d.cells.toList ∧ cs.all V.one = true := by
  unfold flatK at hf
  split at hf
  · split at hf
    · rename_i hall
      cases hf
      cases r with
      | @agg _ x hl hr =>
        have hr' : RepL w h c cs x.toList := ⟨by rw [hl, Array.length_toList], fun j v d hv hd => hr j v d hv (by simpa using hd)⟩
        exact ⟨hr', ones_of hr' hall, hall⟩
    · cases hf
  · split at hf
    · rename_i h1
      cases hf
      obtain ⟨ho, hc⟩ := one_cell r h1
      rw [hc]
      refine ⟨.cons r .nil, fun d' hd => ?_, by simp [h1]⟩
      simp at hd; subst hd; exact ho
    · cases hf

/-! ### a struct put together -/
theorem setAll (xs : List Value) : ∀ (k off : Nat) (a : Array Value), off + k + xs.length ≤ a.size →
    ((xs.zipIdx k).foldl (fun cs (p : Value × Nat) => cs.setIfInBounds (off + p.2) p.1) a).toList = a.toList.take (off + k) ++ xs ++ a.toList.drop (off + k + xs.length) := by
  induction xs with
  | nil => intro k off a hs; simp
  | cons x xs ih =>
    intro k off a hs
    simp only [List.length_cons] at hs
    simp only [List.zipIdx_cons, List.foldl_cons]
    rw [ih (k + 1) off _ (by simp; omega)]
    simp only [Array.toList_setIfInBounds]
    have hlt : off + k < a.toList.length := by simp; omega
    apply List.ext_getElem?
    intro i
    simp only [List.getElem?_append, List.length_take, List.length_set, List.getElem?_take, List.getElem?_drop, List.getElem?_set, List.length_cons, List.length_append, List.getElem?_cons]
    simp only [Array.length_toList] at hlt ⊢
    by_cases h1 : i < off + k
    · have e1 : off + k ≠ i := by omega
      have e2 : i < off + (k + 1) := by omega
      have e3 : i < min (off + (k + 1)) a.size := by omega
      have e4 : i < min (off + k) a.size := by omega
      have e5 : i < min (off + (k + 1)) a.size + xs.length := by omega
      have e6 : i < min (off + k) a.size + (xs.length + 1) := by omega
      simp [h1, e1, e2, e3, e4, e5, e6]
    · by_cases h2 : i = off + k
      · subst h2
        have m1 : min (off + (k + 1)) a.size = off + k + 1 := by omega
        have m2 : min (off + k) a.size = off + k := by omega
        have e2 : off + k < off + (k + 1) := by omega
        have e3 : off + k < a.size := by omega
        rw [m1, m2]
        simp [e2, e3]
        intro h7; omega
      · have m1 : min (off + (k + 1)) a.size = off + k + 1 := by omega
        have m2 : min (off + k) a.size = off + k := by omega
        rw [m1, m2]
        by_cases h3 : i < off + k + 1 + xs.length
        · have e1 : ¬ i < off + k + 1 := by omega
          have e2 : ¬ i < off + k := by omega
          have e4 : i < off + k + (xs.length + 1) := by omega
          have e5 : ¬ (i - (off + k) = 0) := by omega
          have e6 : i - (off + k) - 1 = i - (off + k + 1) := by omega
          simp [h3, e1, e2, e4, e5, e6]
        · have e1 : ¬ i < off + k + 1 := by omega
          have e4 : ¬ i < off + k + (xs.length + 1) := by omega
          have e8 : off + (k + 1) + xs.length + (i - (off + k + 1 + xs.length)) = off + k + (xs.length + 1) + (i - (off + k + (xs.length + 1))) := by omega
          simp [h3, e4, e8]
          intro hh; omega

theorem putCells (cells : Array Value) (d : Value) (off : Nat) (hs : off + d.cells.size ≤ cells.size) :
    (d.cells.zipIdx.foldl (fun cs (p : Value × Nat) => cs.setIfInBounds (off + p.2) p.1) cells).toList = cells.toList.take off ++ d.cells.toList ++ cells.toList.drop (off + d.cells.size) := by
  have h := setAll d.cells.toList 0 off cells (by simpa using hs)
  simp only [Nat.add_zero, Array.length_toList] at h
  rw [← h, ← Array.foldl_toList, Array.toList_zipIdx]

theorem RepL.len {cs : List V} {ds : List Value} (r : RepL w h c cs ds) : cs.length = ds.length := r.1

theorem fill_sound (place : Nat → Option (Nat × Nat)) : ∀ (parts : List (Nat × V)) (parts' : List (Nat × Value)) (cs : List V) (cells : Array Value) (out : List V),
    (parts.map Prod.fst = parts'.map Prod.fst) → RepL w h c (parts.map Prod.snd) (parts'.map Prod.snd) → RepL w h c cs cells.toList →
    fillV cs (parts.map fun p => (((place p.1).getD (0, 1000000)).1, ((place p.1).getD (0, 1000000)).2, p.2)) = some out → cells.size < 1000000 →
    ∃ out', Instr.fill place cells parts' = some out' ∧ RepL w h c out out'.toList ∧ out'.size = cells.size
  | [], parts', cs, cells, out, he, _, rc, hf, _ => by
    cases parts' with
    | nil => simp [fillV] at hf; subst hf; exact ⟨cells, rfl, rc, rfl⟩
    | cons p ps => simp at he
  | (i, v) :: parts, parts', cs, cells, out, he, rp, rc, hf, hno => by
    cases parts' with
    | nil => simp at he
    | cons p ps =>
      obtain ⟨i', d⟩ := p
      simp only [List.map_cons, List.cons.injEq] at he
      obtain ⟨rfl, he⟩ := he
      simp only [List.map_cons] at rp hf
      simp only [fillV] at hf
      split at hf
      · rename_i vs hvs
        split at hf
        · rename_i hcond
          simp only [Bool.and_eq_true, decide_eq_true_eq] at hcond
          obtain ⟨hlen, hsz⟩ := hcond
          obtain ⟨rv, _, _⟩ := flatK_sound rp.head hvs
          have hl1 := rv.len
          have hl2 := rc.len
          simp only [Array.length_toList] at hl1 hl2
          cases hpl : place i with
          | none =>
            rw [hpl] at hsz
            simp at hsz; omega
          | some q =>
            obtain ⟨off, size⟩ := q
            simp only [hpl, Option.getD_some] at hlen hsz hf
            have hcells := putCells cells d off (by omega)
            have hrep : RepL w h c (cs.take off ++ vs ++ cs.drop (off + size)) (d.cells.zipIdx.foldl (fun cs (p : Value × Nat) => cs.setIfInBounds (off + p.2) p.1) cells).toList := by
              rw [hcells]
              have hd : d.cells.size = size := by omega
              rw [hd]
              exact ((rc.take off).append rv).append (rc.drop _)
            obtain ⟨out', h1, h2, h3⟩ := fill_sound place parts ps _ _ out he rp.tail hrep hf (by rw [← Array.length_toList, hcells]; simp; omega)
            refine ⟨out', ?_, h2, ?_⟩
            · simp only [Instr.fill, hpl]
              rw [if_neg]
              · exact h1
              · simp; omega
            · rw [h3, ← Array.length_toList, hcells]; simp; omega
        · cases hf
      · cases hf
end
end Go.Yard
