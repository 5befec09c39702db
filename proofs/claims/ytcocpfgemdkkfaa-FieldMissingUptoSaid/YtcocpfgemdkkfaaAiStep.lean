/-
  The abstract interpreter, part 25: one operation. Own work.
-/
import Derived.Test.YtcocpfgemdkkfaaAiCall
import Derived.Orders
namespace Go.Yard
open Go.RowKit

section
variable {P : Program} {tt : TTab} {w w' : World} {h h' : Heap} {c c' : Cfg} {R : Type}

/-- The interpreter's state says the machine's. -/
structure Sim (w : World) (c : Cfg) (st : St) (a : Act) : Prop where
  wf : WF w st.hp c
  fr : RepL w st.hp c st.fr a.tmps.toList

theorem Keeps.refl (al : Bool) (id : Nat) (h : Heap) : Keeps al id h h := ⟨Nat.le_refl _, fun _ _ _ hf => hf⟩
theorem Keeps.set {id : Nat} (ob : AObj) : Keeps true id h (h.set id ob) := ⟨by simp, fun j hj _ hf => by rw [at_set_ne _ (Ne.symm (hj rfl))]; exact hf⟩
theorem Keeps.weak {al : Bool} {id : Nat} (k : Keeps false 0 h h') : Keeps al id h h' := ⟨k.1, fun j _ hj hf => k.2 j (by simp) hj hf⟩

theorem opW_nat {o : Op} {ρ : Operand → V} {id : Nat} {k0 : V → Heap → Option R} {r : R} (hk : opW tt o ρ h id k0 = some r) :
    ∃ v h', k0 v h' = some r ∧ Keeps true id h h' ∧ ∀ k : V → Heap → Option R, opW tt o ρ h id k = k v h' := by
  have kset : ∀ i ob, h.at i ≠ .free → Keeps true id h (h.set i ob) := fun i ob hi => ⟨by simp, fun j _ _ hf => by
    rw [at_set_ne _ (fun e : i = j => hi (by rw [e]; exact hf))]; exact hf⟩
  have kset2 : ∀ i ob ob', h.at i ≠ .free → Keeps true id h ((h.set i ob).set id ob') := fun i ob ob' hi => ⟨by simp, fun j hj _ hf => by
    rw [at_set_ne _ (Ne.symm (hj rfl)), at_set_ne _ (fun e : i = j => hi (by rw [e]; exact hf))]; exact hf⟩
  cases o <;> simp only [opW] at hk ⊢ <;> try (first | cases hk)
  case store t x y =>
    split at hk <;> try (first | cases hk)
    rename_i vs hvs
    split at hk <;> try (first | cases hk)
    rename_i hc
    split at hk <;> try (first | cases hk)
    · rename_i i o hx
      split at hk <;> try (first | cases hk)
      rename_i cs hcs
      split at hk <;> try (first | cases hk)
      rename_i hl
      exact ⟨_, _, hk, kset i _ (by rw [hcs]; simp), fun k => by simp only [*, if_true]⟩
    · rename_i i sz j o hx
      split at hk <;> try (first | cases hk)
      rename_i T l hcs
      split at hk <;> try (first | cases hk)
      rename_i hs
      split at hk <;> try (first | cases hk)
      rename_i hl
      split at hk <;> try (first | cases hk)
      rename_i z hz
      obtain ⟨hb, hk⟩ := chk_some hk
      exact ⟨_, _, hk, kset i _ (by rw [hcs]; simp), fun k => by simp only [*, if_true, chk, cond_true]⟩
  case call cl =>
    have happ : ∀ e s x, appendK tt e s x h id k0 = some r → ∃ v h', k0 v h' = some r ∧ Keeps true id h h' ∧ ∀ k : V → Heap → Option R, appendK tt e s x h id k = k v h' := by
      intro e s x hk
      unfold appendK at hk
      split at hk <;> try (first | cases hk)
      rename_i T hT
      split at hk <;> try (first | cases hk)
      rename_i hc
      split at hk <;> try (first | cases hk)
      rename_i m hm
      split at hk <;> try (first | cases hk)
      · obtain ⟨hb, hk⟩ := chk_some hk
        split at hk
        · rename_i hr
          exact ⟨_, _, hk, Keeps.set _, fun k => by simp only [appendK, hT, hc, hm, if_true, hb, chk, cond_true, hr]⟩
        · rename_i hr
          exact ⟨_, _, hk, Keeps.set _, fun k => by simp only [appendK, hT, hc, hm, if_true, hb, chk, cond_true, if_neg hr]⟩
      · split at hk <;> try (first | cases hk)
        rename_i hq
        subst hq
        split at hk <;> try (first | cases hk)
        · obtain ⟨hb, hk⟩ := chk_some hk
          exact ⟨_, _, hk, Keeps.set _, fun k => by simp only [appendK, hT, hc, hm, if_true, hb, chk, cond_true, dite_true]⟩
        · split at hk <;> try (first | cases hk)
          rename_i hi
          obtain ⟨hb, hk⟩ := chk_some hk
          exact ⟨_, _, hk, kset2 _ _ _ (by rw [hi]; simp), fun k => by simp only [appendK, hT, hc, hm, hi, if_true, hb, chk, cond_true, dite_true]⟩
      · split at hk <;> try (first | cases hk)
        rename_i T' l hi
        split at hk <;> try (first | cases hk)
        rename_i hq
        subst hq
        obtain ⟨hb, hk⟩ := chk_some hk
        exact ⟨_, _, hk, kset2 _ _ _ (by rw [hi]; simp), fun k => by simp only [appendK, hT, hc, hm, hi, if_true, hb, chk, cond_true, dite_true]⟩
    split at hk <;> try (first | cases hk)
    split at hk <;> try (first | cases hk)
    · obtain ⟨v, h', h1, h2, h3⟩ := happ _ _ _ hk
      exact ⟨v, h', h1, h2, fun k => by simp [*]⟩
    · obtain ⟨v, h', h1, h2, h3⟩ := happ _ _ _ hk
      exact ⟨v, h', h1, h2, fun k => by simp [*]⟩

/-- A slot is written. -/
theorem put_rep {st : List V} {a : Act} (r : RepL w h c st a.tmps.toList) (dst : Option Nat) {v : V} {d : Value} (rv : Rep w h c v d) : RepL w h c (putF st dst v) (a.put dst d).tmps.toList := by
  cases dst with
  | none => exact r
  | some j => simpa [putF, Act.put] using r.set j rv

theorem put_defers (a : Act) (dst : Option Nat) (d : Value) : (a.put dst d).defers = a.defers := by cases dst <;> rfl
theorem put_size (a : Act) (dst : Option Nat) (d : Value) : (a.put dst d).tmps.size = a.tmps.size := by cases dst <;> simp [Act.put]

/-- ONE OPERATION IS SOUND. -/
theorem stepK_sound (T : TOK P tt) {E : Env R} (hE : EOk P E) {o : Oper} {st : St} {a : Act} {drawn : Option Nat} {id : Nat} {k : St → Option R} {r : R} (hk : stepK tt E drawn id o st k = some r) (sim : Sim w c st a)
    (hid : isAlloc tt o = true → id < st.hp.length ∧ st.hp.at id = .free) {next : Act → World → Prop} {Q : Exit → Act → World → Prop}
    (hn : ∀ d w' st' c' v, Sim w' c' st' (a.put o.dst d) → Ext w st.hp c w' st'.hp c' → Keeps (isAlloc tt o) id st.hp st'.hp → st'.fr = putF st.fr o.dst v → (opCls tt o.op ≠ .W → (opCls tt o.op = .C → (drawn.isNone || !plainOp E o.op) = false) → ∀ i, (isAlloc tt o = true → i ≠ id) → st'.hp.at i = st.hp.at i) → k st' = some r → next (a.put o.dst d) w') : o.wp P a w next Q := by
  have hρ := fun x => ev_rep sim.fr x
  unfold stepK at hk
  unfold Oper.wp
  simp only at hk
  split at hk
  · rename_i hcls
    obtain ⟨v, d, h1, h2, h3⟩ := opP_sound (w := w) T hρ hk
    rw [h1, Oper.upon_value]
    exact hn d w ⟨putF st.fr o.dst v, st.hp⟩ c v ⟨sim.wf, put_rep sim.fr _ h2⟩ (.refl _ _ _) (.refl _ _ _) rfl (fun _ _ _ _ => rfl) h3
  · rename_i hcls
    obtain ⟨v, d, h1, h2, h3⟩ := opR_sound T sim.wf hρ hk
    rw [h1, Oper.upon_value]
    exact hn d w ⟨putF st.fr o.dst v, st.hp⟩ c v ⟨sim.wf, put_rep sim.fr _ h2⟩ (.refl _ _ _) (.refl _ _ _) rfl (fun _ _ _ _ => rfl) h3
  · rename_i hcls
    have hal : isAlloc tt o = true := by simp [isAlloc, hcls]
    obtain ⟨ob, mk, h1, _, h2⟩ := opA_sound T sim.wf hρ hk
    obtain ⟨d, w', c', g1, g2, g3, g4⟩ := h2 id (hid hal).1 (hid hal).2
    rw [g1, Oper.upon_value]
    exact hn d w' ⟨putF st.fr o.dst (mk id), st.hp.set id ob⟩ c' (mk id) ⟨g2, put_rep (sim.fr.mono g3) _ g4⟩ g3 (by rw [hal]; exact Keeps.set _) rfl (fun _ _ i hi => at_set_ne _ (Ne.symm (hi hal))) h1
  · rename_i hcls
    have hal : isAlloc tt o = true := by simp [isAlloc, hcls]
    obtain ⟨v0, h0, hk0, hkeep, hnat⟩ := opW_nat hk
    have hk2 := hnat fun v h' => open Classical in if h' = h0 then k ⟨putF st.fr o.dst v, h'⟩ else none
    simp only [if_true] at hk2
    obtain ⟨v, h', d, w', c', nx, g1, g2, g3, g4, g5, g6⟩ := opW_sound T sim.wf hρ (hid hal).1 (hid hal).2 (hk2.trans hk0)
    split at g6 <;> try (first | cases g6)
    rename_i he
    subst he
    rw [g1]
    rcases g2 with rfl | ⟨rfl, rfl⟩
    · rw [Oper.upon_value]
      exact hn d w' ⟨putF st.fr o.dst v, h'⟩ c' v ⟨g3, put_rep (sim.fr.mono g4) _ g5⟩ g4 (by rw [hal]; exact hkeep) rfl (fun hC => (hC hcls).elim) g6
    · rw [Oper.upon_skip]
      exact hn undef w' ⟨putF st.fr o.dst v, h'⟩ c' v ⟨g3, put_rep (sim.fr.mono g4) _ g5⟩ g4 (by rw [hal]; exact hkeep) rfl (fun hC => (hC hcls).elim) g6
  · rename_i hcls
    split at hk <;> try (first | cases hk)
    rename_i cl hcl
    obtain ⟨g, args, h1, nx, w1, h2, h3⟩ := callK_sound hE sim.wf hcl hρ hk
    rw [h1, h2]
    have fin : ∀ d w', (∃ v h' c', WF w' h' c' ∧ Ext w st.hp c w' h' c' ∧ Rep w' h' c' v d ∧ k ⟨putF st.fr o.dst v, h'⟩ = some r ∧ Keeps false 0 st.hp h' ∧ ((drawn.isNone || !plainOp E o.op) = false → h' = st.hp)) → next (a.put o.dst d) w' := by
      rintro d w' ⟨v, h', c', q1, q2, q3, q4, q5, q6⟩
      exact hn d w' ⟨putF st.fr o.dst v, h'⟩ c' v ⟨q1, put_rep (sim.fr.mono q2) _ q3⟩ q2 q5.weak rfl (fun _ hd i _ => by rw [q6 (hd hcls)]) q4
    cases nx <;> simp only at h3
    · rw [Oper.upon_value]; exact fin _ _ h3
    · rw [Oper.upon_enter]
      exact Calls.mono h3 fun e w' ⟨d, e1, q⟩ => by subst e1; exact fin d w' q
    · rw [Oper.upon_row]
      exact Rows.mono h3 fun d w' q => fin d w' q
  · cases hk
  · cases hk
end
end Go.Yard
