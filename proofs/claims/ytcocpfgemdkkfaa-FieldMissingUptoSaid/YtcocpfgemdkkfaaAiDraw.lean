/-
  The abstract interpreter, part 27: regions that draw their order. Own work.
-/
import Derived.Test.YtcocpfgemdkkfaaAiSeq
namespace Go.Yard
open Go.RowKit

section
variable {P : Program} {tt : TTab} {w w' : World} {h h' : Heap} {c c' : Cfg} {R : Type}

/-- One operation with its guard, in a region that draws. -/
def one (tt : TTab) (E : Env R) (base : Nat) (all : List Oper) (o : Oper) (id : Nat) (st : St) (k : St → Option R) : Option R :=
  guardK all o st (fun st => stepK tt E (some base) id o st k) (fun st => k ⟨putF st.fr o.dst (.tuple []), st.hp⟩)

abbrev Item' := Nat × Oper × Nat

def opsP (tt : TTab) (E : Env R) (base : Nat) (all : List Oper) : List Item' → St → (St → Option R) → Option R
  | [], st, k => k st
  | x :: rest, st, k => one tt E base all x.2.1 x.2.2 st fun st => opsP tt E base all rest st k

def number (tt : TTab) : List Oper → Nat → Nat → List Item'
  | [], _, _ => []
  | o :: rest, i, id => (i, o, id) :: number tt rest (i + 1) (if isAlloc tt o then id + 1 else id)

theorem opsK_eq {E : Env R} {base : Nat} {all : List Oper} : ∀ (l : List Oper) (i id : Nat) (st : St) (k : St → Option R),
    opsK tt E (some base) all l id st k = opsP tt E base all (number tt l i id) st k
  | [], _, _, _, _ => rfl
  | o :: l, i, id, st, k => by
    simp only [opsK, forceSt_eq, number, opsP, one]
    congr 1
    · funext st
      congr 1
      funext st
      exact opsK_eq l _ _ _ _
    · funext st
      exact opsK_eq l _ _ _ _

/-! ### what an operation turns -/
structure Eff where
  dst : Option Nat
  v : V
  put : Option (Nat × AObj)

def Eff.hp (e : Eff) (h : Heap) : Heap := match e.put with | none => h | some (i, ob) => h.set i ob
def eff (st : St) (e : Eff) : St := ⟨putF st.fr e.dst e.v, e.hp st.hp⟩

theorem putF_getD {fr : List V} {dst : Option Nat} {v : V} {t : Nat} (h : dst ≠ some t) : (putF fr dst v).getD t .undef = fr.getD t .undef := by
  cases dst with
  | none => rfl
  | some d =>
    have : d ≠ t := fun e => h (by rw [e])
    simp [putF, List.getD, List.getElem?_set_ne this]

theorem putF_comm {fr : List V} {x y : Option Nat} {u v : V} (h : ∀ d, x = some d → y ≠ some d) : putF (putF fr x u) y v = putF (putF fr y v) x u := by
  cases x with
  | none => rfl
  | some d =>
    cases y with
    | none => rfl
    | some e =>
      have : d ≠ e := fun he => h d rfl (by rw [he])
      simp only [putF]
      exact List.set_comm _ _ this

theorem ev_of {fr fr' : List V} {o : Oper} {all : List Oper} (h : ∀ t ∈ looks all o, fr'.getD t .undef = fr.getD t .undef) : ∀ x ∈ o.op.operands, ev fr' x = ev fr x := by
  intro x hx
  cases x with
  | tmp t => exact h t (List.mem_append_left _ (List.mem_filterMap.2 ⟨.tmp t, by simpa using hx, rfl⟩))
  | _ => rfl

theorem guard_of {fr fr' : List V} {hp hp' : Heap} {o : Oper} {all : List Oper} (h : ∀ t ∈ looks all o, fr'.getD t .undef = fr.getD t .undef) {run skip run' skip' : St → Option R}
    (hr : run' ⟨fr', hp'⟩ = run ⟨fr, hp⟩) (hs : skip' ⟨fr', hp'⟩ = skip ⟨fr, hp⟩) : guardK all o ⟨fr', hp'⟩ run' skip' = guardK all o ⟨fr, hp⟩ run skip := by
  rw [guardK_eq, guardK_eq]
  cases hg : o.guard with
  | none => exact hr
  | some jw =>
    obtain ⟨j, want⟩ := jw
    simp only
    cases hd : (all[j]?).bind (·.dst) with
    | none => rfl
    | some d =>
      have := h d (by
        refine List.mem_append_right _ ?_
        simp only [hg, hd]
        simp)
      simp only [this, hr, hs]

theorem opR_heap {o : Op} {ρ : Operand → V} {lim : Option Nat} {h2 : Heap} (e : ∀ i, limOk lim i = true → h2.at i = h.at i) {k : V → Option R} : opR tt o ρ h2 lim k = opR tt o ρ h lim k := by
  cases o <;> simp only [opR]
  case load t x =>
    split
    · rename_i i o _
      split
      · rename_i hl; rw [e i hl]
      · rfl
    · rfl
    · rename_i i _ _ _ _
      split
      · rename_i hl; rw [e i hl]
      · rfl
    · rfl
  case convert s d x =>
    split
    · rename_i i _ _ _ _
      split
      · rename_i hl; rw [e i hl]
      · rfl
    · rfl
    · rfl

/-! ### what commutes -/
def Agree (all : List Oper) (tt : TTab) (base : Nat) (x : Oper) (st st2 : St) : Prop :=
  (∀ t ∈ looks all x, st2.fr.getD t .undef = st.fr.getD t .undef) ∧ (opCls tt x.op = .R → ∀ i, i < base → st2.hp.at i = st.hp.at i)

/-- It may turn the heap. -/
def turns (tt : TTab) (E : Env R) (o : Op) : Prop := clsIn tt E o = .W ∨ clsIn tt E o = .F

theorem clsIn_ne {E : Env R} {o : Op} (h : opCls tt o ≠ .C) : clsIn tt E o = opCls tt o := by
  unfold clsIn
  split
  · rename_i hc; exact (h hc).elim
  · rfl

def calm (a : Cls) : Bool := match a with | .P | .R | .A => true | _ => false

/-- An operation that gives one result. -/
theorem one_nat {E : Env R} {base : Nat} {all : List Oper} {x : Oper} {id : Nat} {st : St} {k0 : St → Option R} {r : R} (hc : calm (opCls tt x.op) = true) (hk : one tt E base all x id st k0 = some r) :
    ∃ e : Eff, e.dst = x.dst ∧ (∀ i ob, e.put = some (i, ob) → i = id ∧ opCls tt x.op = .A) ∧ k0 (eff st e) = some r ∧ ∀ st2, Agree all tt base x st st2 → ∀ k, one tt E base all x id st2 k = k (eff st2 e) := by
  unfold one at hk ⊢
  -- the guard says the same
  have hgu : ∀ st2, Agree all tt base x st st2 → ∀ (run skip : St → Option R), guardK all x st2 run skip = guardK all x st (fun _ => run st2) (fun _ => skip st2) := by
    intro st2 ha run skip
    obtain ⟨fr, hp⟩ := st
    obtain ⟨fr2, hp2⟩ := st2
    exact guard_of ha.1 rfl rfl
  have hsame : ∀ run skip : St → Option R, (∀ run' skip' : St → Option R, guardK all x st run' skip' = run' st) ∨ (∀ run' skip' : St → Option R, guardK all x st run' skip' = skip' st) ∨ guardK all x st run skip = none := by
    intro run skip
    simp only [guardK_eq]
    cases x.guard with
    | none => exact .inl fun _ _ => rfl
    | some jw =>
      obtain ⟨j, want⟩ := jw
      simp only
      cases (all[j]?).bind (·.dst) with
      | none => exact .inr (.inr rfl)
      | some d =>
        simp only
        cases st.fr.getD d .undef with
        | bool b => by_cases hb : b = want <;> simp [hb]
        | tuple vs =>
          cases vs with
          | nil => exact .inr (.inl fun _ _ => rfl)
          | cons _ _ => exact .inr (.inr rfl)
        | _ => exact .inr (.inr rfl)
  rcases hsame _ _ with hg | hg | hg
  · rw [hg] at hk
    unfold stepK at hk
    simp only at hk
    split at hk
    · rename_i hcls
      obtain ⟨v, h1, h2⟩ := opP_nat hk
      refine ⟨⟨x.dst, v, none⟩, rfl, by simp, h1, fun st2 ha k => ?_⟩
      rw [hgu st2 ha, hg]
      simp only [stepK, hcls]
      rw [opP_congr (ev_of ha.1), h2]
      rfl
    · rename_i hcls
      obtain ⟨v, h1, h2⟩ := opR_nat hk
      refine ⟨⟨x.dst, v, none⟩, rfl, by simp, h1, fun st2 ha k => ?_⟩
      rw [hgu st2 ha, hg]
      simp only [stepK, hcls]
      rw [opR_congr (ev_of ha.1), h2 _ fun i hi => ha.2 hcls i (by simpa [limOk] using hi)]
      rfl
    · rename_i hcls
      obtain ⟨ob, mk, h1, h2⟩ := opA_nat hk
      refine ⟨⟨x.dst, mk id, some (id, ob)⟩, rfl, by simp [hcls], h1, fun st2 ha k => ?_⟩
      rw [hgu st2 ha, hg]
      simp only [stepK, hcls]
      rw [opA_congr (ev_of ha.1), h2]
      rfl
    all_goals (rename_i hcls; rw [hcls] at hc; cases hc)
  · rw [hg] at hk
    refine ⟨⟨x.dst, .tuple [], none⟩, rfl, by simp, hk, fun st2 ha k => ?_⟩
    rw [hgu st2 ha, hg]
    rfl
  · rw [hg] at hk; cases hk

theorem apart_spec {all : List Oper} {x y : Oper} (h : apartB all x y = true) :
    (∀ d, x.dst = some d → d ∉ looks all y) ∧ (∀ d, x.dst = some d → y.dst ≠ some d) ∧ (∀ d, y.dst = some d → d ∉ looks all x) := by
  refine ⟨fun d hd => ?_, fun d hd => ?_, fun d hd => ?_⟩ <;> simp [apartB, hd] at h
  · exact h.1.1
  · exact h.1.2
  · exact h.2

/-- An operation behind what another has turned. -/
theorem one_eff {E : Env R} {base : Nat} {all : List Oper} {x y : Oper} {e : Eff} {ix id : Nat} (hp : pairOk tt E all x y = true) (hc : calm (opCls tt x.op) = true) (he : e.dst = x.dst)
    (hput : ∀ i ob, e.put = some (i, ob) → i = ix ∧ opCls tt x.op = .A) (hid : isAlloc tt x = true → isAlloc tt y = true → ix ≠ id) (hb : isAlloc tt x = true → base ≤ ix) (st : St) (k : St → Option R) :
    one tt E base all y id (eff st e) k = one tt E base all y id st fun st1 => k (eff st1 e) := by
  simp only [pairOk, Bool.and_eq_true] at hp
  obtain ⟨hcl, hap⟩ := hp
  obtain ⟨a1, a2, a3⟩ := apart_spec hap
  have hl : ∀ t ∈ looks all y, (putF st.fr e.dst e.v).getD t .undef = st.fr.getD t .undef := fun t ht => putF_getD fun h => a1 t (he ▸ h) ht
  have hcomm : ∀ u, putF (putF st.fr e.dst e.v) y.dst u = putF (putF st.fr y.dst u) e.dst e.v := fun u => putF_comm fun d hd => a2 d (he ▸ hd)
  obtain ⟨fr, hpp⟩ := st
  simp only at hl hcomm
  unfold one
  refine guard_of hl ?_ ?_
  · unfold stepK
    simp only [eff]
    split
    · rw [opP_congr (ev_of hl)]
      simp only [hcomm]
    · rename_i hcy
      rw [opR_congr (ev_of hl), opR_heap (h := hpp)]
      · simp only [hcomm]
      · intro i hi
        unfold Eff.hp
        split
        · rfl
        · rename_i j ob hj
          obtain ⟨rfl, hA⟩ := hput _ _ hj
          have := hb (by simp [isAlloc, hA])
          simp [limOk] at hi
          exact at_set_ne _ (by omega)
    · rename_i hcy
      rw [opA_congr (ev_of hl)]
      simp only [hcomm]
      congr 1
      funext ob mk
      congr 2
      unfold Eff.hp
      split
      · rfl
      · rename_i j ob' hj
        obtain ⟨rfl, hA⟩ := hput _ _ hj
        exact List.set_comm _ _ (hid (by simp [isAlloc, hA]) (by simp [isAlloc, hcy]))
    · rename_i hcy
      have hP : e.put = none := by
        cases hq : e.put with
        | none => rfl
        | some jo =>
          obtain ⟨j, ob⟩ := jo
          obtain ⟨_, hA⟩ := hput j ob hq
          rw [clsIn_ne (by rw [hA]; simp), clsIn_ne (by rw [hcy]; simp), hA, hcy] at hcl
          cases hcl
      rw [opW_congr (ev_of hl)]
      simp only [hcomm, Eff.hp, hP]
    · rename_i hcy
      split
      · rename_i cl hcl'
        simp only [hcomm]
        have hop : ∀ z ∈ cl.operands, ev (putF fr e.dst e.v) z = ev fr z := fun z hz => ev_of hl z (by rw [hcl']; exact hz)
        have hargs : cl.args.toList.map (ev (putF fr e.dst e.v)) = cl.args.toList.map (ev fr) := List.map_congr_left fun z hz => hop z (by simp [Call.operands]; exact .inr (by simpa using hz))
        cases hpl : plainOp E y.op with
        | true =>
          have hfull : (Option.isNone (some base) || !true) = false := rfl
          rw [hcl'] at hpl
          rw [hfull]
          unfold callK
          split
          · rename_i f hf
            rw [hop f (by simp [Call.operands, hf]), hargs]
            split
            · split
              · simp only [cond_false]
              · rfl
              · rfl
            · rfl
          · rfl
        | false =>
          have hF : clsIn tt E y.op = .F := by unfold clsIn; rw [hcy]; simp [hpl]
          have hP : e.put = none := by
            cases hq : e.put with
            | none => rfl
            | some jo =>
              obtain ⟨j, ob⟩ := jo
              obtain ⟨_, hA⟩ := hput j ob hq
              rw [clsIn_ne (by rw [hA]; simp), hF, hA] at hcl
              cases hcl
          have hh : e.hp hpp = hpp := by simp [Eff.hp, hP]
          simp only [hh]
          have hh2 : ∀ h2, e.hp h2 = h2 := fun h2 => by simp [Eff.hp, hP]
          simp only [hh2]
          unfold callK
          split
          · rename_i f hf
            rw [hop f (by simp [Call.operands, hf]), hargs]
          · rfl
      · rfl
    · rfl
    · rfl
  · simp only [eff, hcomm]

/-- Goes on alike. -/
theorem one_congr {E : Env R} {base : Nat} {all : List Oper} {y : Oper} {id : Nat} {st : St} {k k' : St → Option R} (hb : isAlloc tt y = true → base ≤ id)
    (h : ∀ v hp', (turns tt E y.op ∨ ∀ i, i < base → hp'.at i = st.hp.at i) → k ⟨putF st.fr y.dst v, hp'⟩ = k' ⟨putF st.fr y.dst v, hp'⟩) : one tt E base all y id st k = one tt E base all y id st k' := by
  have h0 : ∀ v, k ⟨putF st.fr y.dst v, st.hp⟩ = k' ⟨putF st.fr y.dst v, st.hp⟩ := fun v => h v _ (.inr fun _ _ => rfl)
  obtain ⟨fr, hpp⟩ := st
  unfold one
  refine guard_of (fun _ _ => rfl) ?_ (h0 _)
  unfold stepK
  simp only at h h0 ⊢
  split
  · simp only [h0]
  · simp only [h0]
  · rename_i hcy
    congr 1
    funext ob mk
    refine h _ _ (.inr fun i hi => at_set_ne _ ?_)
    have := hb (by simp [isAlloc, hcy])
    omega
  · rename_i hcy
    congr 1
    funext v h'
    exact h v h' (.inl (.inl (by rw [clsIn_ne (by rw [hcy]; simp), hcy])))
  · rename_i hcy
    split
    · rename_i cl hcl
      cases hpl : plainOp E y.op with
      | true =>
        have hfull : (Option.isNone (some base) || !true) = false := rfl
        rw [hfull]
        unfold callK
        split
        · split
          · split
            · simp only
              split
              · congr 1
                funext v h'
                cases h' with
                | nil => exact h0 v
                | cons _ _ => rfl
              · rfl
            · rfl
            · rfl
          · rfl
        · rfl
      | false =>
        have hF : clsIn tt E y.op = .F := by unfold clsIn; rw [hcy]; simp [hpl]
        have : (fun v h => k ⟨putF fr y.dst v, h⟩) = fun v h => k' ⟨putF fr y.dst v, h⟩ := by
          funext v h'
          exact h v h' (.inl (.inr hF))
        rw [this]
    · rfl
  · rfl
  · rfl
end
end Go.Yard
