/-
  The abstract interpreter, part 30: code. Own work.
-/
import Derived.Test.YtcocpfgemdkkfaaAiNorm
namespace Go.Yard
open Go.RowKit

section
variable {P : Program} {tt : TTab} {w w' : World} {h h' : Heap} {c c' : Cfg} {R : Type}

def Ex.out : Ex → Exit
  | .normal => .normal
  | .exit id => .exit id
  | .goto l => .goto l
  | .ret => .ret

theorem anyT_some {a b : Option R} {r : R} (h : anyT a b = some r) : a = some r ∧ b = some r := by
  unfold anyT at h
  split at h
  · rename_i e; exact ⟨h, e ▸ h⟩
  · cases h

/-- A loop by its rounds. -/
theorem wp_rounds {b0 : Code} {Q : Exit → Act → World → Prop} (I : Nat → Act → World → Prop) (h0 : ∀ a w, ¬ I 0 a w) (round : ∀ n a w, I (n + 1) a w → b0.wp P (Exit.then (I n) Q) a w) {n : Nat} {a : Act} {w : World} (hI : I n a w) :
    (Code.loop b0).wp P Q a w := by
  intro b k cs
  have key : ∀ n a w, I n a w → ∃ e a' w', Q e a' w' ∧ Arrives P (lone (b.at a (.code b0 :: .inLoop b0 :: k)) cs w) b k cs e a' w' := by
    intro n
    induction n with
    | zero => exact fun a w h => (h0 a w h).elim
    | succ n ih =>
      intro a w hI
      obtain ⟨e, a1, w1, hq, harr⟩ := round n a w hI b (.inLoop b0 :: k) cs
      cases e with
      | normal =>
        obtain ⟨e2, a2, w2, hq2, harr2⟩ := ih a1 w1 hq
        exact ⟨e2, a2, w2, hq2, .of_steps (Steps.trans harr (.one step_inLoop)) harr2⟩
      | exit id => exact ⟨_, a1, w1, hq, .pass (x := .inLoop b0) rfl (fun _ _ => .inl (by simp)) harr⟩
      | goto l => exact ⟨_, a1, w1, hq, .pass (x := .inLoop b0) rfl (fun _ _ => .inl (by simp)) harr⟩
      | ret => exact ⟨_, a1, w1, hq, .pass (x := .inLoop b0) rfl (fun _ _ => .inl (by simp)) harr⟩
      | panic ch => exact ⟨_, a1, w1, hq, .pass (x := .inLoop b0) rfl (fun _ _ => .inl (by simp)) harr⟩
      | outgrown => exact ⟨_, a1, w1, hq, .pass (x := .inLoop b0) rfl (fun _ _ => .inl (by simp)) harr⟩
  obtain ⟨e, a', w', hq, harr⟩ := key n a w hI
  exact ⟨e, a', w', hq, .of_steps (.one step_loop) harr⟩

/-- What a loop's table must say. -/
def LoopOk (tt : TTab) (E : Env R) (L : Nat → Option (Hint × LSpec R)) (m : Nat) (a : Code) : Prop :=
  ∀ hint ls, L (keyOf a) = some (hint, ls) → ∀ st (K : Ex → St → Option R) r, ls st K = some r → ∃ n, loopN (interp tt E L m a) (norm m hint) n st (fun e st => K e (trim m hint st)) = some r

def loopsOf : Code → List Code
  | .seq a b => loopsOf a ++ loopsOf b
  | .cond _ a b => loopsOf a ++ loopsOf b
  | .block _ a => loopsOf a
  | .loop a => a :: loopsOf a
  | _ => []

theorem iterK_eq (body : LSpec R) : ∀ n st K, iterK body n st K = loopN body id n st K
  | 0, _, _ => rfl
  | n + 1, st, K => by
    simp only [iterK, loopN]
    congr 1
    funext e st'
    cases e <;> first | rfl | exact iterK_eq body n st' K

section
variable {w0 : World} {h0 : Heap} {c0 : Cfg} {D : List Deferred}

/-- A state from a function's beginning. -/
structure At (w0 : World) (h0 : Heap) (c0 : Cfg) (D : List Deferred) (w : World) (st : St) (a : Act) (c : Cfg) : Prop where
  sim : Sim w c st a
  ext : Ext w0 h0 c0 w st.hp c
  defers : a.defers = D

def Ends (w0 : World) (h0 : Heap) (c0 : Cfg) (D : List Deferred) (K : Ex → St → Option R) (r : R) (Q : Exit → Act → World → Prop) : Prop :=
  ∀ e st a w c, At w0 h0 c0 D w st a c → K e st = some r → Q e.out a w

/-- THE INTERPRETER IS SOUND. -/
theorem interp_sound (T : TOK P tt) (hm : P.follows .mixedOrders = true) {E : Env R} (hE : EOk P E) {L : Nat → Option (Hint × LSpec R)} (hlen : h0.length ≤ 200) {r : R} : ∀ (code : Code), (∀ a ∈ loopsOf code, LoopOk tt E L h0.length a) →
    ∀ (Q : Exit → Act → World → Prop) (K : Ex → St → Option R) (st : St) (a : Act) (w : World) (c : Cfg), At w0 h0 c0 D w st a c → interp tt E L h0.length code st K = some r → Ends w0 h0 c0 D K r Q → code.wp P Q a w
  | .skip, _, Q, K, st, a, w, c, at_, hk, he => wp_skip (he .normal st a w c at_ hk)
  | .region id ops draw, _, Q, K, st, a, w, c, at_, hk, he => by
    simp only [interp] at hk
    have go : Goes w c st a (fun st' => K .normal st') r (Q .normal) := fun a' w' st' c' s x d k => he .normal st' a' w' c' ⟨s, at_.ext.trans x, d.trans at_.defers⟩ k
    cases draw with
    | true => exact draw_sound T hm hE hk at_.sim go
    | false => exact region_sound T hE hk at_.sim go
  | .seq x y, hl, Q, K, st, a, w, c, at_, hk, he => by
    simp only [interp] at hk
    refine wp_seq (interp_sound T hm hE hlen x (fun b hb => hl b (by simp [loopsOf, hb])) _ _ st a w c at_ hk fun e st' a' w' c' at' hk' => ?_)
    cases e with
    | normal => exact interp_sound T hm hE hlen y (fun b hb => hl b (by simp [loopsOf, hb])) Q K st' a' w' c' at' hk' he
    | exit i => exact he (.exit i) st' a' w' c' at' hk'
    | goto l => exact he (.goto l) st' a' w' c' at' hk'
    | ret => exact he .ret st' a' w' c' at' hk'
  | .cond cnd x y, hl, Q, K, st, a, w, c, at_, hk, he => by
    simp only [interp] at hk
    split at hk <;> try (first | cases hk)
    · rename_i t ht
      have rc := ev_rep at_.sim.fr cnd
      rw [ht] at rc
      generalize hv : a.eval cnd = v at rc
      cases rc
      refine wp_cond hv ?_
      cases t with
      | true => exact interp_sound T hm hE hlen x (fun b hb => hl b (by simp [loopsOf, hb])) Q K st a w c at_ hk he
      | false => exact interp_sound T hm hE hlen y (fun b hb => hl b (by simp [loopsOf, hb])) Q K st a w c at_ hk he
    · rename_i ht
      have rc := ev_rep at_.sim.fr cnd
      rw [ht] at rc
      generalize hv : a.eval cnd = v at rc
      cases rc with
      | anyb t =>
        refine wp_cond hv ?_
        obtain ⟨h1, h2⟩ := anyT_some hk
        cases t with
        | true => exact interp_sound T hm hE hlen x (fun b hb => hl b (by simp [loopsOf, hb])) Q K st a w c at_ h1 he
        | false => exact interp_sound T hm hE hlen y (fun b hb => hl b (by simp [loopsOf, hb])) Q K st a w c at_ h2 he
  | .block id x, hl, Q, K, st, a, w, c, at_, hk, he => by
    simp only [interp] at hk
    refine wp_block (interp_sound T hm hE hlen x (fun b hb => hl b (by simp [loopsOf, hb])) _ _ st a w c at_ hk fun e st' a' w' c' at' hk' => ?_)
    cases e with
    | normal => exact he .normal st' a' w' c' at' hk'
    | exit i =>
      simp only [Ex.out, Exit.inBlock]
      simp only at hk'
      split
      · rename_i hi
        rw [if_pos hi] at hk'
        exact he .normal st' a' w' c' at' hk'
      · rename_i hi
        rw [if_neg hi] at hk'
        exact he (.exit i) st' a' w' c' at' hk'
    | goto l => exact he (.goto l) st' a' w' c' at' hk'
    | ret => exact he .ret st' a' w' c' at' hk'
  | .loop x, hl, Q, K, st, a, w, c, at_, hk, he => by
    have hx : ∀ b ∈ loopsOf x, LoopOk tt E L h0.length b := fun b hb => hl b (by simp [loopsOf, hb])
    have main : ∀ (f g : St → St), (∀ w st a c, At w0 h0 c0 D w st a c → ∃ c', At w0 h0 c0 D w (f st) a c') → (∀ w st a c, At w0 h0 c0 D w st a c → ∃ c', At w0 h0 c0 D w (g st) a c') →
        ∀ n st a w c, At w0 h0 c0 D w st a c → loopN (interp tt E L h0.length x) f n st (fun e st => K e (g st)) = some r → (Code.loop x).wp P Q a w := by
      intro f g hf hg n st a w c at_ hk
      refine wp_rounds (fun n a w => ∃ st c, At w0 h0 c0 D w st a c ∧ loopN (interp tt E L h0.length x) f n st (fun e st => K e (g st)) = some r) (fun a w => ?_) (fun n a w => ?_) ⟨st, c, at_, hk⟩
      · rintro ⟨st, c, _, hk⟩
        cases hk
      · rintro ⟨st, c, at_, hk⟩
        simp only [loopN] at hk
        refine interp_sound T hm hE hlen x hx _ _ st a w c at_ hk fun e st' a' w' c' at' hk' => ?_
        cases e with
        | normal =>
          obtain ⟨c2, at2⟩ := hf w' st' a' c' at'
          exact ⟨f st', c2, at2, hk'⟩
        | exit i => obtain ⟨c2, at2⟩ := hg w' st' a' c' at'; exact he (.exit i) _ a' w' c2 at2 hk'
        | goto l => obtain ⟨c2, at2⟩ := hg w' st' a' c' at'; exact he (.goto l) _ a' w' c2 at2 hk'
        | ret => obtain ⟨c2, at2⟩ := hg w' st' a' c' at'; exact he .ret _ a' w' c2 at2 hk'
    simp only [interp] at hk
    split at hk
    · rename_i hint ls hL
      have hnorm : ∀ w st a c, At w0 h0 c0 D w st a c → ∃ c', At w0 h0 c0 D w (norm h0.length hint st) a c' := fun w st a c at_ => by
        obtain ⟨c', s', x'⟩ := norm_sound at_.sim at_.ext hlen hint
        exact ⟨c', s', x', at_.defers⟩
      have htrim : ∀ w st a c, At w0 h0 c0 D w st a c → ∃ c', At w0 h0 c0 D w (trim h0.length hint st) a c' := fun w st a c at_ => by
        obtain ⟨c', s', x'⟩ := trim_sound at_.sim at_.ext hlen hint
        exact ⟨c', s', x', at_.defers⟩
      obtain ⟨n, hn⟩ := hl x (by simp [loopsOf]) hint ls hL _ _ _ hk
      obtain ⟨c', at'⟩ := hnorm w st a c at_
      exact main _ _ hnorm htrim n _ a w c' at' hn
    · rw [iterK_eq] at hk
      exact main id id (fun w st a c h => ⟨c, h⟩) (fun w st a c h => ⟨c, h⟩) 70 st a w c at_ hk
  | .exit id, _, Q, K, st, a, w, c, at_, hk, he => wp_exit (he (.exit id) st a w c at_ hk)
  | .ret, _, Q, K, st, a, w, c, at_, hk, he => wp_ret (he .ret st a w c at_ hk)
  | .label _, _, _, _, _, _, _, _, _, hk, _ => by simp [interp] at hk
  | .goto _, _, _, _, _, _, _, _, _, hk, _ => by simp [interp] at hk
  | .scope _, _, _, _, _, _, _, _, _, hk, _ => by simp [interp] at hk
  | .refuse _, _, _, _, _, _, _, _, _, hk, _ => by simp [interp] at hk
end

/-! ### functions -/
theorem resK_sound (T : TOK P tt) {st : St} {a : Act} (sim : Sim w c st a) : ∀ (rs : List ResultVar) {k : List V → Option R} {r : R}, resK tt st rs k = some r →
    ∃ vs ds, k vs = some r ∧ RepL w st.hp c vs ds ∧ ds.length = rs.length ∧ (rs.mapM (m := Sem) fun | .tmp t => pure (a.tmps.getD t undef) | .cell b t => do loadVar t (← asAddr (a.tmps.getD b undef))).run P w = .ok ds w
  | [], k, r, hk => ⟨[], [], hk, .nil, rfl, by simp⟩
  | .tmp t :: rs, k, r, hk => by
    simp only [resK] at hk
    obtain ⟨vs, ds, h1, h2, h3, h4⟩ := resK_sound T sim rs hk
    refine ⟨_, a.tmps.getD t undef :: ds, h1, .cons ?_ h2, by simp [h3], ?_⟩
    · have := sim.fr.getD t undef
      simpa [List.getD, Array.getD_eq_getD_getElem?] using this
    · simp only [List.mapM_cons, Sem.run_bind, Sem.run_pure, Result.andThen_ok, h4]
  | .cell b t :: rs, k, r, hk => by
    simp only [resK] at hk
    split at hk <;> try (first | cases hk)
    rename_i i o hp
    split at hk <;> try (first | cases hk)
    rename_i cs hcs
    have hl := load_sound (P := P) T sim.wf (t := t) (a := .ptr i o) (a' := a.tmps.getD b undef) (lim := none) (k := fun v => resK tt st rs fun vs => k (v :: vs)) (r := r) (by
        have := sim.fr.getD b undef
        rw [hp] at this
        simpa [List.getD, Array.getD_eq_getD_getElem?] using this) (by simp only [limOk, if_true, hcs]; exact hk)
    obtain ⟨v, v', g1, g2, g3⟩ := hl
    obtain ⟨vs, ds, h1, h2, h3, h4⟩ := resK_sound T sim rs g3
    refine ⟨_, v' :: ds, h1, .cons g2 h2, by simp [h3], ?_⟩
    have hb : (do loadVar t (← asAddr (a.tmps.getD b undef)) : Sem Value).run P w = .ok v' w := by
      have rb := sim.fr.getD b undef
      rw [hp] at rb
      have e : a.tmps.toList.getD b undef = a.tmps.getD b undef := by simp [List.getD, Array.getD_eq_getD_getElem?]
      rw [e] at rb
      generalize a.tmps.getD b undef = q at rb g1
      cases rb with
      | ptr hu hv =>
        obtain ⟨b', rfl, _⟩ := hv
        simpa [Instr.loadAt, Instr.sureAddr, asAddr] using g1
    simp only [List.mapM_cons, Sem.run_bind, hb, Sem.run_pure, Result.andThen_ok, h4]

theorem finishK_sound {w0 : World} {h0 : Heap} {c0 : Cfg} {ts : List Nat} {keep : Bool} {vs : List V} {ds : List Value} (wf : WF w h c) (r : RepL w h c vs ds) (x : Ext w0 h0 c0 w h c) (hm : h0.length ≤ 200) (hts : ts.length = ds.length) {k : V → Heap → Option R} {q : R}
    (hk : finishK tt ts h0.length keep vs h k = some q) : ∃ v h' c', WF w h' c' ∧ Ext w0 h0 c0 w h' c' ∧ Rep w h' c' v (if h : ds.length = 1 then ds[0] else .tuple ds.toArray) ∧ k v h' = some q := by
  unfold finishK at hk
  have main : ∀ (ws : List V) (h1 : Heap), WF w h1 c → RepL w h1 c ws ds → Ext w0 h0 c0 w h1 c →
      k (match V.renL (posIn (reach h1 256 (List.range h0.length ++ V.idsL ws) [])) ws with | [v] => v | l => .tuple l) (h1.pick (reach h1 256 (List.range h0.length ++ V.idsL ws) [])) = some q →
      ∃ v h' c', WF w h' c' ∧ Ext w0 h0 c0 w h' c' ∧ Rep w h' c' v (if h : ds.length = 1 then ds[0] else .tuple ds.toArray) ∧ k v h' = some q := by
    intro ws h1 wf1 r1 x1 hk
    obtain ⟨g1, g2⟩ := reach_range h1 (m := h0.length) (n := 256) (by omega) (V.idsL ws)
    have rr := pick_same_rep (ord := reach h1 256 (List.range h0.length ++ V.idsL ws) []) r1
    refine ⟨_, _, _, pick_same_wf wf1 g1, pick_ext x1 g2, ?_, hk⟩
    have hlen := rr.1
    generalize V.renL (posIn (reach h1 256 (List.range h0.length ++ V.idsL ws) [])) ws = us at rr hlen
    split
    · rename_i v
      have h1 : ds.length = 1 := by simpa using hlen.symm
      rw [dif_pos h1]
      exact rr.2 0 v _ rfl (List.getElem?_eq_getElem _)
    · rename_i hne
      have h1 : ¬ ds.length = 1 := fun e => by
        rw [e] at hlen
        match us, hlen with
        | [v], _ => exact hne v rfl
      rw [dif_neg h1]
      exact .tuple (by simpa using hlen) fun j v d hv hd => rr.2 j v d hv (by simpa using hd)
  cases keep with
  | true => exact main vs h wf r x hk
  | false =>
    simp only [Bool.false_eq_true, if_false] at hk
    exact main _ _ (killRows_wf _ _ wf) (canonL_rep ts _ ds hts (shutL_rep wf r)) (x.trans (killRows_ext _ _)) hk

/-- A FUNCTION's SPEC, where so many objects are handed in. -/
theorem funK_sound (T : TOK P tt) (hm : P.follows .mixedOrders = true) {E : Env R} (hE : EOk P E) {L : Nat → Option (Hint × LSpec R)} {g : Nat} {fn : Func} {code : Code} {keep : Bool} (hf : P.funcs[g]? = some fn) (hb : fn.body = some code)
    (hn : (fn.name == "runtime.NumGoroutine") = false) (hr : fn.results.size = fn.resultTypes.size) (m : Nat) (hl : ∀ a ∈ loopsOf code, LoopOk tt E L m a) : Spec.OkAt P g m (funK tt E L keep fn code) := by
  refine Spec.OkAt.of_body hf hn (by rw [hb]; rfl) fun vs h k r hml hk w c args wf ra => ?_
  subst hml
  refine calls_of_wp hf hb ?_
  unfold funK at hk
  split at hk
  · cases hk
  rename_i h200
  have hlen : h.length ≤ 200 := by omega
  have hfr : RepL w h c (vs ++ List.replicate (fn.ntmps - vs.length) .undef) (args ++ Array.replicate (fn.ntmps - args.size) undef).toList := by
    have e : vs.length = args.size := by simpa using ra.1
    rw [e]
    simpa using ra.append (RepL.replicate_undef (fn.ntmps - args.size) undef)
  refine interp_sound T hm hE (w0 := w) (h0 := h) (c0 := c) (D := []) hlen code hl _ _ _ _ w c ⟨⟨wf, hfr⟩, .refl _ _ _, rfl⟩ hk fun e st a w' c' at' hk' => ?_
  have fin : resK tt st fn.results.toList (fun vs => finishK tt fn.resultTypes.toList h.length keep vs st.hp k) = some r →
      a.defers = [] ∧ ∃ v, (results fn a.tmps).run P w' = .ok v w' ∧ ∃ d, Ending.returned v = Ending.returned d ∧ ∃ u h' c', WF w' h' c' ∧ Ext w h c w' h' c' ∧ Rep w' h' c' u d ∧ k u h' = some r := by
    intro hk
    obtain ⟨vs, ds, g1, g2, g3, g4⟩ := resK_sound T at'.sim _ hk
    obtain ⟨u, h', c2, k1, k2, k3, k4⟩ := finishK_sound at'.sim.wf g2 at'.ext hlen (by simp [g3, hr]) g1
    refine ⟨at'.defers, _, ?_, _, rfl, u, h', c2, k1, k2, k3, k4⟩
    unfold results
    simp only [Sem.run_bind, Array.mapM_eq_mapM_toList, map_eq_pure_bind, Sem.run_pure]
    refine (congrArg (fun z : Result (List Value) => (z.andThen fun a w' => Result.ok a.toArray w').andThen fun a w' => Result.ok (if h : a.size = 1 then a[0] else Value.tuple a) w') g4).trans ?_
    simp
  cases e with
  | normal => exact fin hk'
  | ret => exact fin hk'
  | exit i => cases hk'
  | goto l => cases hk'
end
end Go.Yard
