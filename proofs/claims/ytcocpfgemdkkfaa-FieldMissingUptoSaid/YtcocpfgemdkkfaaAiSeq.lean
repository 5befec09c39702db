/-
  The abstract interpreter, part 26: guards, and operations in a row. Own work.
-/
import Derived.Test.YtcocpfgemdkkfaaAiStep
namespace Go.Yard
open Go.RowKit

section
variable {P : Program} {tt : TTab} {w w' : World} {h h' : Heap} {c c' : Cfg} {R : Type}

theorem set_same {fr : List V} {d : Nat} {v : V} (h : fr.getD d .undef = v) (hv : v ≠ .undef) : fr.set d v = fr := by
  have hd : d < fr.length := by
    rcases Nat.lt_or_ge d fr.length with hl | hl
    · exact hl
    · simp [List.getD, List.getElem?_eq_none hl] at h; exact (hv h.symm).elim
  have e : fr[d] = v := by simpa [List.getD, List.getElem?_eq_getElem hd] using h
  rw [← e]
  exact List.set_getElem_self hd

theorem guardK_eq {all : List Oper} {o : Oper} {st : St} {run skip : St → Option R} : guardK all o st run skip =
    match o.guard with
    | none => run st
    | some (j, want) =>
      match (all[j]?).bind (·.dst) with
      | none => none
      | some d => match st.fr.getD d .undef with | .bool b => if b = want then run st else skip st | .tuple [] => skip st | _ => none := by
  unfold guardK
  cases o.guard with
  | none => rfl
  | some jw =>
    obtain ⟨j, want⟩ := jw
    simp only
    cases (all[j]?).bind (·.dst) with
    | none => rfl
    | some d =>
      simp only
      cases hb : st.fr.getD d .undef with
      | bool b =>
        have e : (⟨st.fr.set d (.bool b), st.hp⟩ : St) = st := by rw [set_same hb (by simp)]
        cases b <;> cases want <;> simp [e]
      | tuple vs => cases vs <;> rfl
      | _ => rfl

/-- A guard is met, or not. -/
theorem guardK_sound {ops : Array Oper} {o : Oper} {st : St} {a : Act} (sim : Sim w c st a) {run skip : St → Option R} {r : R} (hk : guardK ops.toList o st run skip = some r) :
    (Region.wanted o (yielded ops a.tmps) = true ∧ run st = some r) ∨ (Region.wanted o (yielded ops a.tmps) = false ∧ skip st = some r) := by
  rw [guardK_eq] at hk
  unfold Region.wanted
  split at hk
  · rename_i hg; simp only [hg]; exact .inl ⟨trivial, hk⟩
  · rename_i j want hg
    simp only [hg]
    split at hk <;> try (first | cases hk)
    rename_i d hd
    have hl : ∀ v, st.fr.getD d .undef = v → v ≠ .undef → d < st.fr.length := fun v hv hne => by
      rcases Nat.lt_or_ge d st.fr.length with hl | hl
      · exact hl
      · simp [List.getD, List.getElem?_eq_none hl] at hv; exact (hne hv.symm).elim
    have key : ∀ v, st.fr.getD d .undef = v → v ≠ .undef → ∃ x, a.tmps[d]? = some x ∧ Rep w st.hp c v x := fun v hb hne => by
      have hl := hl v hb hne
      have hl2 : d < a.tmps.size := by rw [← (by simpa using sim.fr.1 : st.fr.length = a.tmps.size)]; exact hl
      exact ⟨a.tmps[d], Array.getElem?_eq_getElem hl2, sim.fr.2 d v a.tmps[d] (by rw [List.getElem?_eq_getElem hl]; simpa [List.getD, List.getElem?_eq_getElem hl] using hb) (by simp)⟩
    have hd' : (ops[j]?).bind (·.dst) = some d := by simpa using hd
    split at hk <;> try (first | cases hk)
    · rename_i b hb
      obtain ⟨x, hx, rv⟩ := key _ hb (by simp)
      have hy : yielded ops a.tmps j = some b := by
        unfold yielded
        rw [hd']
        simp only [Option.bind_some, hx]
        cases rv
        rfl
      rw [hy]
      split at hk
      · rename_i hw; subst hw; exact .inl ⟨by simp, hk⟩
      · rename_i hw; exact .inr ⟨by simpa using hw, hk⟩
    · rename_i hb
      obtain ⟨x, hx, rv⟩ := key _ hb (by simp)
      have hy : yielded ops a.tmps j = none := by
        unfold yielded
        rw [hd']
        simp only [Option.bind_some, hx]
        cases rv
        rfl
      rw [hy]
      exact .inr ⟨by simp, hk⟩

theorem rep_undef : Rep w h c (.tuple []) undef := .tuple rfl (by simp)

/-- What is asked of what goes on. -/
def Goes (w : World) (c : Cfg) (st : St) (a : Act) (k : St → Option R) (r : R) (K : Act → World → Prop) : Prop :=
  ∀ a' w' st' c', Sim w' c' st' a' → Ext w st.hp c w' st'.hp c' → a'.defers = a.defers → k st' = some r → K a' w'

def Slots (tt : TTab) (rest : List Oper) (id : Nat) (h : Heap) : Prop := ∀ j, id ≤ j → j < id + (rest.filter (isAlloc tt)).length → j < h.length ∧ h.at j = .free

/-- Operations in the text's order. -/
theorem opsK_sound (T : TOK P tt) {E : Env R} (hE : EOk P E) {ops : Array Oper} {k : St → Option R} {r : R} {Q : Exit → Act → World → Prop} : ∀ (rest : List Oper) (n id : Nat) (w : World) (c : Cfg) (st : St) (a : Act),
    ops.toList.drop n = rest → opsK tt E none ops.toList rest id st k = some r → Sim w c st a → Slots tt rest id st.hp → Goes w c st a k r (Q .normal) → wpOps P ops Q (List.range' n rest.length) a w
  | [], n, id, w, c, st, a, _, hk, sim, _, go => go a w st c sim (.refl _ _ _) rfl hk
  | o :: rest, n, id, w, c, st, a, hd, hk, sim, hs, go => by
    have hn : ops[n]? = some o := by
      have : (ops.toList.drop n)[0]? = some o := by rw [hd]; rfl
      rw [List.getElem?_drop] at this
      simpa using this
    have hd' : ops.toList.drop (n + 1) = rest := by
      have : (ops.toList.drop n).drop 1 = rest := by rw [hd]; rfl
      rwa [List.drop_drop] at this
    rw [List.length_cons, List.range'_succ, wpOps_cons]
    unfold wpOp
    simp only [hn]
    simp only [opsK, forceSt_eq] at hk
    have hsl : ∀ h', Keeps (isAlloc tt o) id st.hp h' → Slots tt rest (if isAlloc tt o then id + 1 else id) h' := by
      intro h' kp j h1 h2
      cases ha : isAlloc tt o with
      | true =>
        rw [ha] at h1 h2 kp
        simp only [if_true] at h1 h2
        obtain ⟨g1, g2⟩ := hs j (by omega) (by rw [List.filter_cons_of_pos ha, List.length_cons]; omega)
        exact ⟨Nat.lt_of_lt_of_le g1 kp.1, kp.2 j (fun _ => by omega) g1 g2⟩
      | false =>
        rw [ha] at h1 h2 kp
        simp only [Bool.false_eq_true, if_false] at h1 h2
        obtain ⟨g1, g2⟩ := hs j (by omega) (by rw [List.filter_cons_of_neg (by simp [ha])]; omega)
        exact ⟨Nat.lt_of_lt_of_le g1 kp.1, kp.2 j (fun h => by cases h) g1 g2⟩
    rcases guardK_sound sim hk with ⟨hw, hk⟩ | ⟨hw, hk⟩
    · rw [if_pos hw]
      refine .inl (stepK_sound T hE hk sim (fun ha => hs id (Nat.le_refl _) (by rw [List.filter_cons_of_pos ha, List.length_cons]; omega)) fun d w' st' c' v sim' x kp _ _ hk' => ?_)
      refine opsK_sound T hE rest (n + 1) _ w' c' st' _ hd' hk' sim' (hsl _ kp) fun a2 w2 st2 c2 s2 x2 d2 k2 => ?_
      exact go a2 w2 st2 c2 s2 (x.trans x2) (d2.trans (put_defers _ _ _)) k2
    · rw [if_neg (by simp [hw])]
      refine opsK_sound T hE rest (n + 1) _ w c ⟨putF st.fr o.dst (.tuple []), st.hp⟩ _ hd' hk ⟨sim.wf, put_rep sim.fr _ rep_undef⟩ (hsl _ (.refl _ _ _)) fun a2 w2 st2 c2 s2 x2 d2 k2 => ?_
      exact go a2 w2 st2 c2 s2 x2 (d2.trans (put_defers _ _ _)) k2

/-! ### objects that are not yet there -/
theorem at_free {n i : Nat} : Heap.at (h ++ List.replicate n .free) i = h.at i ∨ (h.length ≤ i ∧ Heap.at (h ++ List.replicate n .free) i = .free) := by
  rcases Nat.lt_or_ge i h.length with hi | hi
  · exact .inl (at_append_left hi)
  · rcases Nat.lt_or_ge (i - h.length) n with hj | hj
    · refine .inr ⟨hi, ?_⟩
      rw [at_append_right hi]
      simp [Heap.at, List.getD, List.getElem?_replicate, hj]
    · refine .inl ?_
      rw [at_append_right hi]
      have h1 : ¬ (i - h.length < n) := by omega
      have h2 : ¬ (i < h.length) := by omega
      simp [Heap.at, List.getD, List.getElem?_replicate, h1, List.getElem?_eq_none hi]

theorem at_out {i : Nat} (hi : h.length ≤ i) : h.at i = .dead := by simp [Heap.at, List.getD, List.getElem?_eq_none hi]

theorem slots_owns {n b x : Nat} : Owns (h ++ List.replicate n .free) c b x ↔ Owns h c b x := by
  constructor
  · rintro ⟨i, f, h1, h2, h3⟩
    rcases at_free (h := h) (n := n) (i := i) with e | ⟨_, e⟩
    · exact ⟨i, f, h1, e ▸ h2, h3⟩
    · rw [e] at h2; cases h2
  · rintro ⟨i, f, h1, h2, h3⟩
    rcases at_free (h := h) (n := n) (i := i) with e | ⟨hi, e⟩
    · exact ⟨i, f, h1, e.symm ▸ h2, h3⟩
    · rw [at_out hi] at h2; cases h2

theorem slots_ext (n : Nat) : Ext w h c w (h ++ List.replicate n .free) c where
  os := rfl
  tape := rfl
  output := rfl
  size := Nat.le_refl _
  used := fun i hi => ⟨by simp; have := hi.1; omega, by
    rw [at_append_left hi.1]; exact hi.2⟩
  same := fun i hi hd => by
    rw [at_append_left hi.1] at hd ⊢
    exact ⟨sim_refl (live_of hi.2 hd) (fun _ _ => .inr trivial), rfl, rfl⟩
  cell := fun _ _ _ _ => rfl
  block := fun _ _ _ => rfl
  owns := fun b x _ ho => slots_owns.1 ho
  ext := rfl
  arr := fun b arr e fz hb => ⟨arr, fz, hb, rfl⟩

theorem slots_wf (wf : WF w h c) (n : Nat) : WF w (h ++ List.replicate n .free) c where
  disj := fun b x ho => wf.disj b x (slots_owns.1 ho)
  extlt := wf.extlt
  obj := fun i hi => by
    rcases at_free (h := h) (n := n) (i := i) with e | ⟨_, e⟩
    · rw [e]
      rcases Nat.lt_or_ge i h.length with hl | hl
      · have ho := wf.obj i hl
        by_cases hv : (h.at i).live
        · exact ho.keep (slots_ext n) (fun _ _ => rfl) rfl rfl
        · have h0 : h.at i = .free ∨ h.at i = .dead := by revert hv; cases h.at i <;> simp [AObj.live]
          rcases h0 with h0 | h0 <;> rw [h0] <;> trivial
      · rw [at_out hl]; trivial
    · rw [e]; trivial
  inj := fun i j b hi hj h1 h2 => by
    have hl : ∀ i, (Heap.at (h ++ List.replicate n .free) i).live → (h.at i).live := fun i hi => by
      rcases at_free (h := h) (n := n) (i := i) with e | ⟨_, e⟩
      · rw [e] at hi; exact hi
      · rw [e] at hi; exact hi.elim
    exact wf.inj i j b (hl i hi) (hl j hj) h1 h2

/-- A region in the text's order. -/
theorem region_sound (T : TOK P tt) {E : Env R} (hE : EOk P E) {id : Nat} {ops : Array Oper} {k : St → Option R} {r : R} {Q : Exit → Act → World → Prop} {st : St} {a : Act}
    (hk : regionK tt E ops.toList false st k = some r) (sim : Sim w c st a) (go : Goes w c st a k r (Q .normal)) : (Code.region id ops false).wp P Q a w := by
  refine wp_region ?_
  simp only [regionK, Bool.false_eq_true, if_false] at hk
  have := opsK_sound T hE (ops := ops) (Q := Q) ops.toList 0 st.hp.length w c _ a rfl hk ⟨slots_wf sim.wf _, sim.fr.mono (slots_ext _)⟩ ?_ ?_
  · rw [List.range_eq_range']
    simpa using this
  · intro j h1 h2
    refine ⟨by simp; omega, ?_⟩
    rw [at_append_right h1]
    have : j - st.hp.length < (ops.toList.filter (isAlloc tt)).length := by omega
    simp [Heap.at, List.getD, List.getElem?_replicate, this]
  · exact fun a2 w2 st2 c2 s2 x2 d2 k2 => go a2 w2 st2 c2 s2 ((slots_ext _).trans x2) d2 k2
end
end Go.Yard
