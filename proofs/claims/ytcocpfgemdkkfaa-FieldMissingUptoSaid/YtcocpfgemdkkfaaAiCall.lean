/-
  The abstract interpreter, part 24: calls. Own work.
-/
import Derived.Test.YtcocpfgemdkkfaaAiShut
import Derived.Calls
namespace Go.Yard
open Go.RowKit

section
variable {P : Program} {tt : TTab} {w w' : World} {h h' : Heap} {c c' : Cfg} {R : Type}

/-- A call, of a function with a body, of one that the model itself answers, or of a row. -/
def CallsTo (P : Program) (g : Nat) (args : Array Value) (w : World) (Q : Value → World → Prop) : Prop :=
  ∃ nx w1, (callFunc g args).run P w = .ok nx w1 ∧
    match nx with
    | .value d => Q d w1
    | .enter f as => Calls P f as w1 fun e w' => ∃ d, e = .returned d ∧ Q d w'
    | .row row as => Rows P row as w1 Q
    | _ => False

theorem CallsTo.mono {g : Nat} {args : Array Value} {Q Q' : Value → World → Prop} (h : CallsTo P g args w Q) (hq : ∀ d w', Q d w' → Q' d w') : CallsTo P g args w Q' := by
  obtain ⟨nx, w1, h1, h2⟩ := h
  refine ⟨nx, w1, h1, ?_⟩
  cases nx <;> simp only at h2 ⊢
  · exact hq _ _ h2
  · exact Calls.mono h2 fun e w' ⟨d, e1, q⟩ => ⟨d, e1, hq _ _ q⟩
  · exact Rows.mono h2 fun d w' q => hq _ _ q

/-- What a spec says of a function. -/
def Spec.Ok (P : Program) (g : Nat) (sp : Spec R) : Prop :=
  ∀ vs h k r, sp vs h k = some r → ∀ (w : World) (c : Cfg) (args : Array Value), WF w h c → RepL w h c vs args.toList →
    CallsTo P g args w fun d w' => ∃ v h' c', WF w' h' c' ∧ Ext w h c w' h' c' ∧ Rep w' h' c' v d ∧ k v h' = some r

/-- The same, where so many objects are handed in. -/
def Spec.OkAt (P : Program) (g m : Nat) (sp : Spec R) : Prop :=
  ∀ vs h k r, h.length = m → sp vs h k = some r → ∀ (w : World) (c : Cfg) (args : Array Value), WF w h c → RepL w h c vs args.toList →
    CallsTo P g args w fun d w' => ∃ v h' c', WF w' h' c' ∧ Ext w h c w' h' c' ∧ Rep w' h' c' v d ∧ k v h' = some r

def EOk (P : Program) (E : Env R) : Prop := ∀ g b sp, E g = some (b, sp) → Spec.Ok P g sp

/-- A function with a body. -/
theorem Spec.OkAt.of_body {g m : Nat} {sp : Spec R} {fn : Func} (hf : P.funcs[g]? = some fn) (hn : (fn.name == "runtime.NumGoroutine") = false) (hb : fn.body.isNone = false)
    (hs : ∀ vs h k r, h.length = m → sp vs h k = some r → ∀ (w : World) (c : Cfg) (args : Array Value), WF w h c → RepL w h c vs args.toList →
      Calls P g args w fun e w' => ∃ d, e = .returned d ∧ ∃ v h' c', WF w' h' c' ∧ Ext w h c w' h' c' ∧ Rep w' h' c' v d ∧ k v h' = some r) : Spec.OkAt P g m sp := by
  intro vs h k r hml hk w c args wf ra
  refine ⟨.enter g args, w, ?_, hs vs h k r hml hk w c args wf ra⟩
  have hn' : fn.name ≠ "runtime.NumGoroutine" := by simpa using hn
  have hb' : fn.body ≠ none := fun e => by rw [e] at hb; cases hb
  simp [callFunc, hf, hn', hb']

theorem none_ids : ∀ {v : V}, v.ids = [] → ∀ ρ, v.ren ρ = v := by
  have key : (∀ v : V, v.ids = [] → ∀ ρ, v.ren ρ = v) ∧ ∀ l : List V, V.idsL l = [] → ∀ ρ, V.renL ρ l = l := by
    refine ⟨fun v => ?_, fun l => ?_⟩
    · refine V.rec (motive_1 := fun v => v.ids = [] → ∀ ρ, v.ren ρ = v) (motive_2 := fun l => V.idsL l = [] → ∀ ρ, V.renL ρ l = l) ?_ ?_ ?_ ?_ ?_ ?_ ?_ ?_ ?_ ?_ ?_ ?_ ?_ ?_ ?_ ?_ ?_ ?_ ?_ ?_ ?_ ?_ v <;> first
        | (intros; rfl)
        | (intros; simp_all [V.ids, V.idsL, V.ren, V.renL]; done)
        | skip
      · intro T l t ht ρ
        cases t <;> simp_all [V.ids, V.ren, Tok.ren]
    · refine V.rec_1 (motive_1 := fun v => v.ids = [] → ∀ ρ, v.ren ρ = v) (motive_2 := fun l => V.idsL l = [] → ∀ ρ, V.renL ρ l = l) ?_ ?_ ?_ ?_ ?_ ?_ ?_ ?_ ?_ ?_ ?_ ?_ ?_ ?_ ?_ ?_ ?_ ?_ ?_ ?_ ?_ ?_ l <;> first
        | (intros; rfl)
        | (intros; simp_all [V.ids, V.idsL, V.ren, V.renL]; done)
        | skip
      · intro T l t ht ρ
        cases t <;> simp_all [V.ids, V.ren, Tok.ren]
  exact fun {v} hv ρ => key.1 v hv ρ

theorem back_nil (h : Heap) : h.back [] [] = h := by simp [Heap.back, Heap.putAll]

/-- Slots that are free stay so. -/
def Keeps (al : Bool) (id : Nat) (h h' : Heap) : Prop := h.length ≤ h'.length ∧ ∀ j, (al = true → j ≠ id) → j < h.length → h.at j = .free → h'.at j = .free

theorem back_keeps {ord : List Nat} (hnd : ord.Nodup) (hu : ∀ i ∈ ord, Used h i) (hle : ord.length ≤ h'.length) : Keeps false 0 h (h.back ord h') := by
  refine ⟨by simp [Heap.back, putAll_length], fun j _ hj hf => ?_⟩
  have hn : j ∉ ord := fun hm => (hu j hm).2 hf
  rcases back_at (c := ⟨fun _ => none, fun _ => 0, fun _ _ => False⟩) (c' := ⟨fun _ => none, fun _ => 0, fun _ _ => False⟩) hnd (fun i hi => (hu i hi).1) hle j with ⟨i, h1, h2, _⟩ | ⟨_, _, h3, _⟩ | ⟨h1, _⟩
  · unfold backId at h1
    split at h1
    · rename_i hi
      simp only [List.getD, List.getElem?_eq_getElem hi, Option.getD_some] at h1
      exact (hn (h1 ▸ List.getElem_mem hi)).elim
    · omega
  · rw [h3]; exact hf
  · simp [Heap.back, putAll_length] at h1; omega

theorem ev_rep {st : List V} {a : Act} (r : RepL w h c st a.tmps.toList) (x : Operand) : Rep w h c (ev st x) (a.eval x) := by
  cases x with
  | tmp t =>
    have := r.getD t undef
    simpa [ev, Act.eval, List.getD, Array.getD_eq_getD_getElem?] using this
  | const v => exact ofConst_rep v
  | global g => exact .undef _
  | func f => exact .func rfl rfl (by simp) (by simp)

theorem dropTok1_rep {v : V} {d : Value} (r : Rep w h c v d) : Rep w h c (dropTok1 v) d := by
  cases r with
  | sl f hcap hmx hc hr hnil hown => exact .sl f hcap hmx hc hr (by simp) (by simp)
  | _ => simp only [dropTok1]; constructor <;> assumption

theorem dropTok_rep {v : V} {d : Value} (r : Rep w h c v d) : Rep w h c (dropTok v) d := by
  cases r with
  | sl f hcap hmx hc hr hnil hown => exact .sl f hcap hmx hc hr (by simp) (by simp)
  | @agg cs x hl hr =>
    refine .agg (by simpa using hl) fun j v d hv hd => ?_
    rw [List.getElem?_map] at hv
    cases e : cs[j]? with
    | none => rw [e] at hv; cases hv
    | some u => rw [e] at hv; simp at hv; subst hv; exact dropTok1_rep (hr j u d e hd)
  | _ => simp only [dropTok]; constructor <;> assumption

theorem dropTokL_rep {vs : List V} {ds : List Value} (r : RepL w h c vs ds) : RepL w h c (vs.map dropTok) ds := by
  refine ⟨by simpa using r.1, fun j v d hv hd => ?_⟩
  rw [List.getElem?_map] at hv
  cases e : vs[j]? with
  | none => rw [e] at hv; cases hv
  | some u => rw [e] at hv; simp at hv; subst hv; exact dropTok_rep (r.2 j u d e hd)

theorem renL_none {vs : List V} (h : V.idsL vs = []) (ρ : Nat → Option Nat) : V.renL ρ vs = vs := by
  have : ∀ v ∈ vs, v.ren ρ = v := fun v hv => by
    refine none_ids ?_ _
    cases hi : v.ids with
    | nil => rfl
    | cons i l =>
      obtain ⟨j, hj⟩ := List.mem_iff_getElem?.1 hv
      have : i ∈ V.idsL vs := idsL_mem.2 ⟨j, v, hj, by rw [hi]; simp⟩
      rw [h] at this; cases this
  rw [renL_eq]
  conv => rhs; rw [← List.map_id vs]
  exact List.map_congr_left this

/-- A CALL IS SOUND. -/
theorem callK_sound {E : Env R} (hE : EOk P E) (wf : WF w h c) {o : Oper} {cl : Call} (ho : o.op = .call cl) {ρ : Operand → V} {ρ' : Operand → Value} (hρ : ∀ x, Rep w h c (ρ x) (ρ' x)) {full : Bool}
    {k : V → Heap → Option R} {r : R} (hk : callK tt E full cl ρ h k = some r) :
    ∃ g args, (execOp ρ' o).run P w = (callFunc g args).run P w ∧ CallsTo P g args w fun d w' =>
      ∃ v h' c', WF w' h' c' ∧ Ext w h c w' h' c' ∧ Rep w' h' c' v d ∧ k v h' = some r ∧ Keeps false 0 h h' ∧ (full = false → h' = h) := by
  obtain ⟨dst, op, type, pos, after, guard⟩ := o
  simp only at ho
  subst ho
  unfold callK at hk
  split at hk <;> try (first | cases hk)
  rename_i f hf
  split at hk <;> try (first | cases hk)
  rename_i g first cap hg
  have rf := hρ f
  rw [hg] at rf
  generalize hdf : ρ' f = df at rf
  cases rf with
  | @func _ _ _ x y ha hb hra hrb =>
    have rargs : RepL w h c (first ++ cl.args.toList.map ρ ++ cap) (x ++ cl.args.map ρ' ++ y).toList := by
      have e : (x ++ cl.args.map ρ' ++ y).toList = x.toList ++ cl.args.toList.map ρ' ++ y.toList := by simp
      rw [e]
      refine RepL.append (RepL.append ⟨by simpa using ha, fun j v d hv hd => hra j v d hv (by simpa using hd)⟩ (RepL.map _ fun z _ => hρ z)) ⟨by simpa using hb, fun j v d hv hd => hrb j v d hv (by simpa using hd)⟩
    have rplain : RepL w h c ((first ++ canonA tt cl.argTypes.toList (cl.args.toList.map ρ) ++ cap).map dropTok) (x ++ cl.args.map ρ' ++ y).toList := by
      have e : (x ++ cl.args.map ρ' ++ y).toList = x.toList ++ cl.args.toList.map ρ' ++ y.toList := by simp
      rw [e]
      refine dropTokL_rep (RepL.append (RepL.append ⟨by simpa using ha, fun j v d hv hd => hra j v d hv (by simpa using hd)⟩ (canonA_rep _ (RepL.map _ fun z _ => hρ z))) ⟨by simpa using hb, fun j v d hv hd => hrb j v d hv (by simpa using hd)⟩)
    simp only at hk
    refine ⟨g, x ++ cl.args.map ρ' ++ y, by simp [execOp, resolve, hf, hdf, Deferred.ofValue, invoke], ?_⟩
    generalize (first ++ canonA tt cl.argTypes.toList (cl.args.toList.map ρ) ++ cap).map dropTok = ps at *
    generalize first ++ cl.args.toList.map ρ ++ cap = vs at *
    split at hk <;> try (first | cases hk)
    · -- a plain one
      rename_i sp hsp
      split at hk
      · rename_i hids
        have ra := callee_rep (ord := []) rplain
        rw [renL_none hids] at ra
        refine CallsTo.mono (hE g _ sp hsp _ _ _ _ hk w _ _ (callee_wf (ord := []) wf List.nodup_nil) ra) fun d w' ⟨v, h', c', wf', x, rv, hk'⟩ => ?_
        obtain ⟨k1, k2, k3⟩ := call_back wf (ord := []) (by simp) (by simp) wf' x
        split at hk' <;> try (first | cases hk')
        refine ⟨v, h, c.back [] h.length c', ?_, ?_, ?_, hk', ⟨Nat.le_refl _, fun j _ _ hf => hf⟩, fun _ => rfl⟩
        · rw [back_nil] at k1; exact k1
        · rw [back_nil] at k2; exact k2
        · have := rv.ren k3
          rw [back_nil] at this
          rw [none_ids] at this
          · exact this
          · cases hi : v.ids with
            | nil => rfl
            | cons i l =>
              have := rv.ids_used i (by rw [hi]; simp)
              exact (Nat.not_lt_zero _ this.1).elim
      · cases full with
        | false => cases hk
        | true =>
          simp only [cond_true] at hk
          unfold lendK at hk
          split at hk <;> try (first | cases hk)
          rename_i hids
          have ra := callee_rep (ord := []) (shutL_rep wf rplain)
          rw [renL_none hids] at ra
          refine CallsTo.mono (hE g _ sp hsp _ _ _ _ hk w _ _ (callee_wf (ord := []) (killRows_wf _ _ wf) List.nodup_nil) ra) fun d w' ⟨v, h', c', wf', x, rv, hk'⟩ => ?_
          split at hk' <;> try (first | cases hk')
          cases hs : v.scal with
          | false => rw [hs] at hk'; cases hk'
          | true =>
            rw [hs] at hk'
            obtain ⟨hx, hw⟩ := still_ext wf x
            exact ⟨v, h, c, hw, hx, scal_rep hs rv, hk', ⟨Nat.le_refl _, fun j _ _ hf => hf⟩, fun _ => rfl⟩
    · rename_i sp hsp
      cases full with
      | false => cases hk
      | true =>
        simp only [cond_true] at hk
        have hui := rargs.ids_used
        generalize V.idsL vs = ids at *
        have hu : ∀ i ∈ reach h 64 ids [], Used h i := reach_used wf _ _ _ hui (by simp)
        have hnd : (reach h 64 ids []).Nodup := reach_nodup h _ _ _ (by simp)
        refine CallsTo.mono (hE g _ sp hsp _ _ _ _ hk w _ _ (callee_wf wf hnd) (callee_rep rargs)) fun d w' ⟨v, h', c', wf', x, rv, hk'⟩ => ?_
        obtain ⟨k1, k2, k3⟩ := call_back wf hnd hu wf' x
        have hle : (reach h 64 ids []).length ≤ h'.length := by
          rcases Nat.eq_zero_or_pos (reach h 64 ids []).length with h0 | h0
          · omega
          · have := (x.used ((reach h 64 ids []).length - 1) ⟨by simp [Heap.pick]; omega, by
              rw [pick_at, List.getElem?_eq_getElem (by omega)]
              simp only [ne_eq, ren_free]
              exact (hu _ (List.getElem_mem _)).2⟩).1
            omega
        exact ⟨_, _, _, k1, k2, rv.ren k3, hk', back_keeps hnd hu hle, fun hd' => by cases hd'⟩
end
end Go.Yard
