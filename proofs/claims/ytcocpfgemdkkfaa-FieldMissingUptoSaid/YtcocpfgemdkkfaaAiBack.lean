/-
  The abstract interpreter, part 22: behind a call. Own work.
-/
import Derived.Test.YtcocpfgemdkkfaaAiRen
namespace Go.Yard
open Go.RowKit

section
variable {w w' : World} {h h' : Heap} {c c' : Cfg}

theorem idsL_mem {i : Nat} : ∀ {cs : List V}, i ∈ V.idsL cs ↔ ∃ (j : Nat) (v : V), cs[j]? = some v ∧ i ∈ v.ids
  | [] => by simp [V.idsL]
  | v :: cs => by
    simp only [V.idsL, List.mem_append, idsL_mem (cs := cs)]
    constructor
    · rintro (h | ⟨j, u, h1, h2⟩)
      · exact ⟨0, v, rfl, h⟩
      · exact ⟨j + 1, u, h1, h2⟩
    · rintro ⟨j, u, h1, h2⟩
      cases j with
      | zero => simp at h1; subst h1; exact .inl h2
      | succ j => exact .inr ⟨j, u, h1, h2⟩

theorem Rep.ids_used {v : V} {d : Value} (r : Rep w h c v d) : ∀ i ∈ v.ids, Used h i := by
  induction r with
  | undef v => simp [V.ids]
  | int hn => simp [V.ids]
  | bool b => simp [V.ids]
  | str hl => simp [V.ids]
  | nilptr => simp [V.ids]
  | nilsl => simp [V.ids]
  | nilfunc => simp [V.ids]
  | nilmap => simp [V.ids]
  | niliface => simp [V.ids]
  | anyb b => simp [V.ids]
  | ptr hi _ => simpa [V.ids] using hi
  | map hi _ => simpa [V.ids] using hi
  | row hi _ _ => simpa [V.ids] using hi
  | rptr hi _ => simpa [V.ids] using hi
  | iptr f hc _ ih =>
    intro i hi
    simp only [V.ids] at hi
    obtain ⟨j, v, h1, h2⟩ := idsL_mem.1 hi
    exact ih j v h1 i h2
  | @sl T l t A cap f hcap hmx hc hr hnil hown ih =>
    intro i hi
    cases t with
    | no => simp [V.ids] at hi
    | nil => simp [V.ids] at hi
    | own j => simp [V.ids] at hi; subst hi; exact (hown i rfl).1
  | vsl hn hmx f hc _ ih =>
    intro i hi
    simp only [V.ids] at hi
    obtain ⟨j, v, h1, h2⟩ := idsL_mem.1 hi
    exact ih j v h1 i h2
  | @func f a b x y ha hb _ _ iha ihb =>
    intro i hi
    simp only [V.ids, List.mem_append] at hi
    rcases hi with hi | hi
    · obtain ⟨j, v, h1, h2⟩ := idsL_mem.1 hi
      have hj := (List.getElem?_eq_some_iff.1 h1).1
      exact iha j v _ h1 (Array.getElem?_eq_getElem (by omega)) i h2
    · obtain ⟨j, v, h1, h2⟩ := idsL_mem.1 hi
      have hj := (List.getElem?_eq_some_iff.1 h1).1
      exact ihb j v _ h1 (Array.getElem?_eq_getElem (by omega)) i h2
  | agg hl _ ih =>
    intro i hi
    simp only [V.ids] at hi
    obtain ⟨j, v, h1, h2⟩ := idsL_mem.1 hi
    have hj := (List.getElem?_eq_some_iff.1 h1).1
    exact ih j v _ h1 (Array.getElem?_eq_getElem (by omega)) i h2
  | tuple hl _ ih =>
    intro i hi
    simp only [V.ids] at hi
    obtain ⟨j, v, h1, h2⟩ := idsL_mem.1 hi
    have hj := (List.getElem?_eq_some_iff.1 h1).1
    exact ih j v _ h1 (Array.getElem?_eq_getElem (by omega)) i h2

theorem RepL.ids_used {cs : List V} {ds : List Value} (r : RepL w h c cs ds) : ∀ i ∈ V.idsL cs, Used h i := by
  intro i hi
  obtain ⟨j, v, h1, h2⟩ := idsL_mem.1 hi
  have hj := (List.getElem?_eq_some_iff.1 h1).1
  exact (r.2 j v _ h1 (List.getElem?_eq_getElem (by have := r.1; omega))).ids_used i h2

theorem WF.ids_used (wf : WF w h c) (i : Nat) : ∀ j ∈ (h.at i).ids, Used h j := by
  intro j hj
  cases e : h.at i with
  | cells cs =>
    rw [e] at hj
    have ho := wf.obj i (Heap.at_live rfl (by rw [e]; simp))
    rw [e] at ho
    obtain ⟨b, arr, el, _, _, r⟩ := ho
    exact r.ids_used j hj
  | _ => rw [e] at hj; simp [AObj.ids] at hj

theorem reach_used (wf : WF w h c) : ∀ (n : Nat) (todo seen : List Nat), (∀ i ∈ todo, Used h i) → (∀ i ∈ seen, Used h i) → ∀ i ∈ reach h n todo seen, Used h i
  | 0, _, _, _, hs => hs
  | n + 1, [], _, _, hs => hs
  | n + 1, i :: todo, seen, ht, hs => by
    simp only [reach]
    split
    · exact reach_used wf n _ _ (fun j hj => ht j (by simp [hj])) hs
    · refine reach_used wf n _ _ (fun j hj => ?_) (fun j hj => ?_)
      · rcases List.mem_append.1 hj with hj | hj
        · exact ht j (by simp [hj])
        · exact wf.ids_used i j hj
      · rcases List.mem_append.1 hj with hj | hj
        · exact hs j hj
        · simp at hj; subst hj; exact ht j (by simp)

theorem Owns.lt (wf : WF w h c) {b x : Nat} (ho : Owns h c b x) : b < w.heap.size := by
  obtain ⟨i, f, h1, h2, _⟩ := ho
  have hl : (h.at i).live := by cases e : h.at i <;> rw [e] at h2 <;> simp_all [AObj.from_, AObj.live]
  exact (wf.obj i (Heap.at_live rfl (live_ne_dead hl))).lt hl h1

theorem live_from {o : AObj} (h : o.live) (f : Nat) : ∃ g, o.from_ f = some g := by cases o <;> simp_all [AObj.from_, AObj.live]

/-! ### what the callee sees -/
def OwnedIn (h : Heap) (c : Cfg) (ord : List Nat) (b x : Nat) : Prop := ∃ i ∈ ord, ∃ f, c.blk i = some b ∧ (h.at i).from_ (c.off i) = some f ∧ f ≤ x

def extOf (h : Heap) (c : Cfg) (ord : List Nat) (b x : Nat) : Prop := c.ext b x ∨ (Owns h c b x ∧ ¬ OwnedIn h c ord b x)

theorem OwnedIn.owns {ord : List Nat} {b x : Nat} (o : OwnedIn h c ord b x) : Owns h c b x := by obtain ⟨i, _, f, h1, h2, h3⟩ := o; exact ⟨i, f, h1, h2, h3⟩

theorem extOf_free {ord : List Nat} : ∀ b x, Free h c b x → ¬ extOf h c ord b x := by
  rintro b x hf (he | he)
  · exact hf.2 he
  · exact hf.1 he.1

theorem callee_wf (wf : WF w h c) {ord : List Nat} (hnd : ord.Nodup) : WF w (h.pick ord) (c.pick ord (extOf h c ord)) := by
  refine pick_wf wf hnd extOf_free ?_ ?_
  · rintro b x (he | he)
    · exact wf.extlt b x he
    · exact he.1.lt wf
  · rintro b x ho (he | he)
    · exact wf.disj b x (OwnedIn.owns ho) he
    · exact he.2 ho

theorem callee_rep {ord : List Nat} {cs : List V} {ds : List Value} (r : RepL w h c cs ds) : RepL w (h.pick ord) (c.pick ord (extOf h c ord)) (V.renL (posIn ord) cs) ds :=
  r.ren (pick_ren extOf_free)

/-! ### the caller's heap behind it -/
theorem putAll_length : ∀ (l : List (Nat × AObj)) (h : Heap), (Heap.putAll h l).length = h.length
  | [], _ => rfl
  | (i, o) :: l, h => by simp [Heap.putAll, putAll_length l]

theorem putAll_not {i : Nat} : ∀ (ord : List Nat) (os : List AObj) (h : Heap), i ∉ ord → Heap.at (Heap.putAll h (ord.zip os)) i = h.at i
  | [], _, _, _ => rfl
  | _ :: _, [], _, _ => rfl
  | a :: ord, o :: os, h, hn => by
    simp only [List.zip_cons_cons, Heap.putAll]
    rw [putAll_not ord os _ (fun hm => hn (by simp [hm]))]
    exact at_set_ne _ (fun e => hn (by simp [e]))

theorem putAll_in {i : Nat} : ∀ (ord : List Nat) (os : List AObj) (h : Heap) (j : Nat) (o : AObj), ord.Nodup → ord[j]? = some i → os[j]? = some o → i < h.length → Heap.at (Heap.putAll h (ord.zip os)) i = o
  | [], _, _, _, _, _, hj, _, _ => by simp at hj
  | _ :: _, [], _, _, _, _, _, ho, _ => by simp at ho
  | a :: ord, p :: os, h, j, o, hnd, hj, ho, hi => by
    simp only [List.zip_cons_cons, Heap.putAll]
    cases j with
    | zero =>
      simp at hj ho
      subst hj; subst ho
      rw [putAll_not ord os _ (by simpa using (List.nodup_cons.1 hnd).1)]
      exact at_set_eq _ hi
    | succ j => exact putAll_in ord os _ j o (List.nodup_cons.1 hnd).2 (by simpa using hj) (by simpa using ho) (by simpa using hi)

theorem at_append_left {a b : Heap} {i : Nat} (hi : i < a.length) : Heap.at (a ++ b) i = Heap.at a i := by simp [Heap.at, List.getD, List.getElem?_append_left hi]
theorem at_append_right {a b : Heap} {i : Nat} (hi : a.length ≤ i) : Heap.at (a ++ b) i = Heap.at b (i - a.length) := by simp [Heap.at, List.getD, List.getElem?_append_right hi]

theorem posIn_at {ord : List Nat} (hnd : ord.Nodup) {i j : Nat} (e : ord[j]? = some i) : posIn ord i = some j := by
  obtain ⟨hj, rfl⟩ := List.getElem?_eq_some_iff.1 e
  have hm : ord[j] ∈ ord := List.getElem_mem hj
  have hlt : ord.idxOf ord[j] < ord.length := List.idxOf_lt_length_of_mem hm
  unfold posIn
  simp only [hlt, if_true]
  have hg := List.getElem_idxOf hlt
  have hp := List.pairwise_iff_getElem.1 hnd
  rcases Nat.lt_trichotomy (ord.idxOf ord[j]) j with hl | he | hl
  · exact (hp _ _ hlt hj hl hg).elim
  · rw [he]
  · exact (hp _ _ hj hlt hl hg.symm).elim

theorem posIn_none {ord : List Nat} {i : Nat} (h : i ∉ ord) : posIn ord i = none := by
  cases e : posIn ord i with
  | none => rfl
  | some j => exact (h (List.mem_of_getElem? (posIn_some e))).elim

/-- Where the objects lie behind a call. -/
def Cfg.back (c : Cfg) (ord : List Nat) (n : Nat) (c' : Cfg) : Cfg :=
  ⟨fun i => match posIn ord i with | some j => c'.blk j | none => if i < n then c.blk i else c'.blk (i - n + ord.length),
   fun i => match posIn ord i with | some j => c'.off j | none => if i < n then c.off i else c'.off (i - n + ord.length), c.ext⟩

/-- An id behind a call: the callee's, or the caller's alone. -/
theorem back_at {ord : List Nat} (hnd : ord.Nodup) (hlt : ∀ i ∈ ord, i < h.length) (hle : ord.length ≤ h'.length) (i : Nat) :
    (∃ j, backId ord h.length j = i ∧ j < h'.length ∧ Heap.at (h.back ord h') i = (h'.at j).ren (fun j => some (backId ord h.length j)) ∧ (c.back ord h.length c').blk i = c'.blk j ∧ (c.back ord h.length c').off i = c'.off j) ∨
    (i ∉ ord ∧ i < h.length ∧ Heap.at (h.back ord h') i = h.at i ∧ (c.back ord h.length c').blk i = c.blk i ∧ (c.back ord h.length c').off i = c.off i) ∨
    ((h.back ord h').length ≤ i ∧ Heap.at (h.back ord h') i = .dead) := by
  have hlen : (h.back ord h').length = h.length + (h'.length - ord.length) := by simp [Heap.back, putAll_length]
  by_cases hm : i ∈ ord
  · obtain ⟨j, hj, e⟩ := List.mem_iff_getElem.1 hm
    have e' : ord[j]? = some i := by rw [List.getElem?_eq_getElem hj, e]
    have hi := hlt i hm
    refine .inl ⟨j, by simp [backId, hj, List.getD, e], by omega, ?_, by simp [Cfg.back, posIn_at hnd e'], by simp [Cfg.back, posIn_at hnd e']⟩
    unfold Heap.back
    simp only
    rw [at_append_left (by rw [putAll_length]; exact hi)]
    refine putAll_in ord _ h j _ hnd e' ?_ hi
    have hj' : j < h'.length := by omega
    simp [hj, Heap.at, List.getD, List.getElem?_eq_getElem hj']
  · by_cases hi : i < h.length
    · refine .inr (.inl ⟨hm, hi, ?_, by simp [Cfg.back, posIn_none hm, hi], by simp [Cfg.back, posIn_none hm, hi]⟩)
      unfold Heap.back
      simp only
      rw [at_append_left (by rw [putAll_length]; exact hi)]
      exact putAll_not ord _ h hm
    · by_cases hb : i < (h.back ord h').length
      · rw [hlen] at hb
        refine .inl ⟨i - h.length + ord.length, ?_, by omega, ?_, by simp [Cfg.back, posIn_none hm, hi], by simp [Cfg.back, posIn_none hm, hi]⟩
        · have : ¬ (i - h.length + ord.length < ord.length) := by omega
          simp only [backId, this, if_false]
          omega
        · unfold Heap.back
          simp only
          rw [at_append_right (by rw [putAll_length]; omega), putAll_length]
          have hb' : i - h.length + ord.length < h'.length := by omega
          have hq : ord.length + (i - h.length) = i - h.length + ord.length := by omega
          simp [Heap.at, List.getD, hq, List.getElem?_eq_getElem hb']
      · refine .inr (.inr ⟨by omega, ?_⟩)
        simp [Heap.at, List.getD, List.getElem?_eq_none (Nat.le_of_not_lt hb)]

theorem back_id {ord : List Nat} (hnd : ord.Nodup) (hlt : ∀ i ∈ ord, i < h.length) (hle : ord.length ≤ h'.length) (j : Nat) :
    Heap.at (h.back ord h') (backId ord h.length j) = (h'.at j).ren (fun j => some (backId ord h.length j)) ∧ (c.back ord h.length c').blk (backId ord h.length j) = c'.blk j ∧ (c.back ord h.length c').off (backId ord h.length j) = c'.off j := by
  have hlen : (h.back ord h').length = h.length + (h'.length - ord.length) := by simp [Heap.back, putAll_length]
  by_cases hj : j < ord.length
  · have hb : backId ord h.length j = ord[j] := by simp [backId, hj, List.getD]
    have e' : ord[j]? = some ord[j] := List.getElem?_eq_getElem hj
    have hi := hlt _ (List.getElem_mem hj)
    rw [hb]
    refine ⟨?_, by simp [Cfg.back, posIn_at hnd e'], by simp [Cfg.back, posIn_at hnd e']⟩
    unfold Heap.back
    simp only
    rw [at_append_left (by rw [putAll_length]; exact hi)]
    refine putAll_in ord _ h j _ hnd e' ?_ hi
    have hj' : j < h'.length := by omega
    simp [hj, Heap.at, List.getD, List.getElem?_eq_getElem hj']
  · have hb : backId ord h.length j = h.length + (j - ord.length) := by simp [backId, hj]
    have hm : h.length + (j - ord.length) ∉ ord := fun hm => by have := hlt _ hm; omega
    have hn : ¬ (h.length + (j - ord.length) < h.length) := by omega
    have hs : h.length + (j - ord.length) - h.length + ord.length = j := by omega
    rw [hb]
    refine ⟨?_, by simp only [Cfg.back, posIn_none hm, hn, if_false, hs], by simp only [Cfg.back, posIn_none hm, hn, if_false, hs]⟩
    unfold Heap.back
    simp only
    rw [at_append_right (by rw [putAll_length]; omega), putAll_length]
    have hq : h.length + (j - ord.length) - h.length = j - ord.length := by omega
    have hq2 : ord.length + (j - ord.length) = j := by omega
    rw [hq]
    by_cases hj' : j < h'.length
    · simp [Heap.at, List.getD, hq2, List.getElem?_eq_getElem hj']
    · simp [Heap.at, List.getD, hq2, List.getElem?_eq_none (Nat.le_of_not_lt hj'), AObj.ren]

theorem backId_inj {ord : List Nat} (hnd : ord.Nodup) (hlt : ∀ i ∈ ord, i < h.length) {j k : Nat} (e : backId ord h.length j = backId ord h.length k) : j = k := by
  unfold backId at e
  by_cases hj : j < ord.length <;> by_cases hk : k < ord.length
  · simp only [hj, hk, if_true, List.getD, List.getElem?_eq_getElem hj, List.getElem?_eq_getElem hk, Option.getD_some] at e
    have hp := List.pairwise_iff_getElem.1 hnd
    rcases Nat.lt_trichotomy j k with hl | he | hl
    · exact (hp _ _ hj hk hl e).elim
    · exact he
    · exact (hp _ _ hk hj hl e.symm).elim
  · simp only [hj, hk, if_true, if_false, List.getD, List.getElem?_eq_getElem hj, Option.getD_some] at e
    have := hlt _ (List.getElem_mem hj); omega
  · simp only [hj, hk, if_true, if_false, List.getD, List.getElem?_eq_getElem hk, Option.getD_some] at e
    have := hlt _ (List.getElem_mem hk); omega
  · simp only [hj, hk, if_false] at e; omega

theorem ren_sim {ρ ρ' : Nat → Option Nat} {o o' : AObj} : (o.ren ρ).sim (o'.ren ρ') ↔ o.sim o' := by cases o <;> cases o' <;> simp [AObj.ren, AObj.sim, renL_len]
theorem ren_sim_l {ρ : Nat → Option Nat} {o o' : AObj} : (o.ren ρ).sim o' ↔ o.sim o' := by cases o <;> cases o' <;> simp [AObj.ren, AObj.sim, renL_len]
theorem ren_sim_r {ρ : Nat → Option Nat} {o o' : AObj} : o.sim (o'.ren ρ) ↔ o.sim o' := by cases o <;> cases o' <;> simp [AObj.ren, AObj.sim, renL_len]
theorem sim_refl {o : AObj} (h : o.live) (hm : ∀ T l, o ≠ .smap T l ∨ True) : o.sim o := by cases o <;> simp_all [AObj.sim, AObj.live]

/-- BEHIND A CALL: what the callee left is the caller's world. -/
theorem call_back (wf : WF w h c) {ord : List Nat} (hnd : ord.Nodup) (hu : ∀ i ∈ ord, Used h i) (wf' : WF w' h' c') (x : Ext w (h.pick ord) (c.pick ord (extOf h c ord)) w' h' c') :
    WF w' (h.back ord h') (c.back ord h.length c') ∧ Ext w h c w' (h.back ord h') (c.back ord h.length c') ∧ RenOK (fun j => some (backId ord h.length j)) h' c' (h.back ord h') (c.back ord h.length c') := by
  have hlt : ∀ i ∈ ord, i < h.length := fun i hi => (hu i hi).1
  have hup : ∀ j, j < ord.length → Used (h.pick ord) j := fun j hj => by
    refine ⟨by simpa [Heap.pick] using hj, ?_⟩
    rw [pick_at, List.getElem?_eq_getElem hj]
    simp only [ne_eq, ren_free]
    exact (hu _ (List.getElem_mem hj)).2
  have hle : ord.length ≤ h'.length := by
    rcases Nat.eq_zero_or_pos ord.length with h0 | h0
    · omega
    · have := (x.used _ (hup (ord.length - 1) (by omega))).1; omega
  have hlen : (h.back ord h').length = h.length + (h'.length - ord.length) := by simp [Heap.back, putAll_length]
  -- who owns a cell
  have howns : ∀ b y, Owns (h.back ord h') (c.back ord h.length c') b y → Owns h' c' b y ∨ ∃ i f, i ∉ ord ∧ i < h.length ∧ c.blk i = some b ∧ (h.at i).from_ (c.off i) = some f ∧ f ≤ y := by
    rintro b y ⟨i, f, h1, h2, h3⟩
    rcases back_at (c := c) (c' := c') hnd hlt hle i with ⟨j, _, _, g1, g2, g3⟩ | ⟨g0, g1, g2, g3, g4⟩ | ⟨_, g1⟩
    · rw [g2] at h1; rw [g1, g3, ren_from] at h2
      exact .inl ⟨j, f, h1, h2, h3⟩
    · rw [g3] at h1; rw [g2, g4] at h2
      exact .inr ⟨i, f, g0, g1, h1, h2, h3⟩
    · rw [g1] at h2; cases h2
  have hown' : ∀ i f b y, i ∉ ord → c.blk i = some b → (h.at i).from_ (c.off i) = some f → f ≤ y → extOf h c ord b y := by
    intro i f b y hi h1 h2 h3
    refine .inr ⟨⟨i, f, h1, h2, h3⟩, ?_⟩
    rintro ⟨i2, hm, f2, g1, g2, g3⟩
    have := wf.inj i i2 b (from_live h2) (from_live g2) h1 g1
    subst this
    exact hi hm
  have hpick : ∀ b y, Owns (h.pick ord) (c.pick ord (extOf h c ord)) b y → OwnedIn h c ord b y := fun b y ho => pick_owns ho
  have hext : c'.ext = extOf h c ord := x.ext
  have hren : RenOK (fun j => some (backId ord h.length j)) h' c' (h.back ord h') (c.back ord h.length c') := by
    refine ⟨fun i j e hi => ?_, fun i j e hd => ?_, fun i j e ht => ?_, fun i j e T l ht => ?_, fun b y hf => ⟨fun ho => ?_, fun he => ?_⟩⟩
    · cases e
      obtain ⟨g1, _, _⟩ := back_id (c := c) (c' := c') hnd hlt hle i
      refine ⟨?_, by rw [g1]; simp only [ne_eq, ren_free]; exact hi.2⟩
      rw [hlen]
      unfold backId
      have := hi.1
      split
      · rename_i hj
        have := hlt _ (List.getElem_mem hj)
        simp only [List.getD, List.getElem?_eq_getElem hj, Option.getD_some]
        omega
      · omega
    · cases e
      obtain ⟨g1, g2, g3⟩ := back_id (c := c) (c' := c') hnd hlt hle i
      rw [g1] at hd
      simp only [ne_eq, ren_dead] at hd
      exact ⟨hd, g2, g3⟩
    · cases e
      rw [(back_id (c := c) (c' := c') hnd hlt hle i).1] at ht
      exact ren_tok.1 ht
    · cases e
      rw [(back_id (c := c) (c' := c') hnd hlt hle i).1] at ht
      exact ren_row.1 ht
    · rcases howns b y ho with ho | ⟨i, f, g0, _, g2, g3, g4⟩
      · exact hf.1 ho
      · exact hf.2 (by rw [hext]; exact hown' i f b y g0 g2 g3 g4)
    · exact hf.2 (by rw [hext]; exact .inl he)
  have hx : Ext w h c w' (h.back ord h') (c.back ord h.length c') := by
    refine ⟨x.os, x.tape, x.output, x.size, fun i hi => ?_, fun i hi hd => ?_, fun b y hb ho => x.cell b y hb (fun o => ho (hpick b y o).owns), fun b hb ho => x.block b hb (fun y o => ho y (hpick b y o).owns), fun b y hb ho => ?_, rfl, x.arr⟩
    · rcases back_at (c := c) (c' := c') hnd hlt hle i with ⟨j, g0, gj, g1, g2, g3⟩ | ⟨g0, g1, g2, g3, g4⟩ | ⟨g0, _⟩
      · refine ⟨by have := hi.1; omega, ?_⟩
        rw [g1]; simp only [ne_eq, ren_free]
        have hjo : j < ord.length := by
          unfold backId at g0
          split at g0
          · assumption
          · have := hi.1; omega
        exact (x.used j (hup j hjo)).2
      · exact ⟨by omega, by rw [g2]; exact hi.2⟩
      · have := hi.1; omega
    · rcases back_at (c := c) (c' := c') hnd hlt hle i with ⟨j, g0, gj, g1, g2, g3⟩ | ⟨g0, g1, g2, g3, g4⟩ | ⟨g0, _⟩
      · have hjo : j < ord.length := by
          unfold backId at g0
          split at g0
          · assumption
          · have := hi.1; omega
        have e : ord[j]? = some i := by
          simp only [backId, hjo, if_true, List.getD, List.getElem?_eq_getElem hjo, Option.getD_some] at g0
          rw [List.getElem?_eq_getElem hjo, g0]
        rw [g1] at hd ⊢
        simp only [ne_eq, ren_dead] at hd
        obtain ⟨s1, s2, s3⟩ := x.same j (hup j hjo) hd
        rw [pick_at, e] at s1
        rw [g2, g3, s2, s3]
        exact ⟨ren_sim_r.2 (ren_sim_l.1 s1), by simp [Cfg.pick, e], by simp [Cfg.pick, List.getD, e]⟩
      · rw [g2] at hd ⊢
        exact ⟨sim_refl (live_of hi.2 hd) (fun _ _ => .inr trivial), g3, g4⟩
      · have := hi.1; omega
    · rcases howns b y ho with ho | ⟨i, f, g0, _, g2, g3, g4⟩
      · exact (hpick b y (x.owns b y hb ho)).owns
      · exact ⟨i, f, g2, g3, g4⟩
  refine ⟨⟨fun b y ho he => ?_, fun b y he => Nat.lt_of_lt_of_le (wf.extlt b y he) x.size, fun i hi => ?_, fun i j b hi hj h1 h2 => ?_⟩, hx, hren⟩
  · rcases howns b y ho with ho | ⟨i, f, g0, _, g2, g3, g4⟩
    · exact wf'.disj b y ho (by rw [hext]; exact .inl he)
    · exact wf.disj b y ⟨i, f, g2, g3, g4⟩ he
  · rcases back_at (c := c) (c' := c') hnd hlt hle i with ⟨j, g0, gj, g1, g2, g3⟩ | ⟨g0, g1, g2, g3, g4⟩ | ⟨_, g0⟩
    · rw [g1]
      exact (wf'.obj j gj).ren hren g2 g3
    · rw [g2]
      by_cases hl : (h.at i).live
      · refine (wf.obj i g1).keep hx (fun b hb => x.block b ((wf.obj i g1).lt hl hb) fun y o => ?_) g3 g4
        obtain ⟨i2, hm, f2, k1, k2, _⟩ := hpick b y o
        have := wf.inj i i2 b hl (from_live k2) hb k1
        subst this
        exact g0 hm
      · have h0 : h.at i = .free ∨ h.at i = .dead := by revert hl; cases h.at i <;> simp [AObj.live]
        rcases h0 with h0 | h0 <;> rw [h0] <;> trivial
    · rw [g0]; trivial
  · have key : ∀ i j b, i ∉ ord → (h.at i).live → c.blk i = some b → (h'.at j).live → c'.blk j = some b → False := by
      intro i j b hi hl hb hl' hb'
      have hbl := (wf.obj i (Heap.at_live rfl (live_ne_dead hl))).lt hl hb
      obtain ⟨f, hf⟩ := live_from hl' (c'.off j)
      obtain ⟨i2, hm, f2, k1, k2, _⟩ := hpick b f (x.owns b f hbl ⟨j, f, hb', hf, Nat.le_refl _⟩)
      have := wf.inj i i2 b hl (from_live k2) hb k1
      subst this
      exact hi hm
    rcases back_at (c := c) (c' := c') hnd hlt hle i with ⟨i', a0, _, a1, a2, a3⟩ | ⟨a0, a1, a2, a3, a4⟩ | ⟨_, a0⟩
    · rcases back_at (c := c) (c' := c') hnd hlt hle j with ⟨j', b0, _, b1, b2, b3⟩ | ⟨b0, b1, b2, b3, b4⟩ | ⟨_, b0⟩
      · rw [a1, ren_live] at hi; rw [b1, ren_live] at hj
        rw [a2] at h1; rw [b2] at h2
        rw [← a0, ← b0, wf'.inj i' j' b hi hj h1 h2]
      · rw [a1, ren_live] at hi; rw [b2] at hj
        rw [a2] at h1; rw [b3] at h2
        exact (key j i' b b0 hj h2 hi h1).elim
      · rw [b0] at hj; exact hj.elim
    · rcases back_at (c := c) (c' := c') hnd hlt hle j with ⟨j', b0, _, b1, b2, b3⟩ | ⟨b0, b1, b2, b3, b4⟩ | ⟨_, b0⟩
      · rw [a2] at hi; rw [b1, ren_live] at hj
        rw [a3] at h1; rw [b2] at h2
        exact (key i j' b a0 hi h1 hj h2).elim
      · rw [a2] at hi; rw [b2] at hj
        rw [a3] at h1; rw [b3] at h2
        exact wf.inj i j b hi hj h1 h2
      · rw [b0] at hj; exact hj.elim
    · rw [a0] at hi; exact hi.elim
end
end Go.Yard
