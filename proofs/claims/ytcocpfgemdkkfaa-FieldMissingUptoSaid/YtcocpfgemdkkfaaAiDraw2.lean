/-
  The abstract interpreter, part 28: regions that draw their order: the theorem. Own work.
-/
import Derived.Test.YtcocpfgemdkkfaaAiDraw
namespace Go.Yard
open Go.RowKit

section
variable {P : Program} {tt : TTab} {w w' : World} {h h' : Heap} {c c' : Cfg} {R : Type}

theorem wp_const {o : Oper} {a : Act} {G : Prop} (h : o.wp P a w (fun _ _ => G) (fun _ _ _ => G)) : G := by
  unfold Oper.wp at h
  generalize (execOp a.eval o).run P w = r at h
  cases r with
  | ok n w' =>
    cases n <;> simp only [Oper.upon] at h <;> try (first | exact h | exact h.elim)
    · obtain ⟨e, w', fr, hR, _⟩ := h []
      cases e with
      | returned v => exact hR
      | panicked c => exact hR
      | outgrown => obtain ⟨_, _, g⟩ := hR; exact g
    · obtain ⟨v, w', g, _⟩ := h (Frame.enter P 0 #[] .normal) []
      exact g
  | halt x w' => cases x <;> simp only [Oper.upon] at h <;> first | exact h | exact h.elim

/-- There is a state behind it. -/
theorem one_reach (T : TOK P tt) {E : Env R} (hE : EOk P E) {base : Nat} {ops : Array Oper} {y : Oper} {id : Nat} {st : St} {a : Act} {k : St → Option R} {r : R} (hk : one tt E base ops.toList y id st k = some r) (sim : Sim w c st a)
    (hid : isAlloc tt y = true → base ≤ id ∧ id < st.hp.length ∧ st.hp.at id = .free) :
    ∃ w1 c1 st1 a1 v, Sim w1 c1 st1 a1 ∧ k st1 = some r ∧ st1.fr = putF st.fr y.dst v ∧ (turns tt E y.op ∨ ∀ i, i < base → st1.hp.at i = st.hp.at i) ∧ Keeps (isAlloc tt y) id st.hp st1.hp := by
  rcases guardK_sound sim hk with ⟨_, hk⟩ | ⟨_, hk⟩
  · refine wp_const (P := P) (o := y) (a := a) (w := w) (stepK_sound T hE hk sim (fun ha => (hid ha).2) fun d w' st' c' v sim' x kp hf hh hk' => ?_)
    refine ⟨w', c', st', _, v, sim', hk', hf, ?_, kp⟩
    by_cases hW : turns tt E y.op
    · exact .inl hW
    · refine .inr fun i hi => hh (fun hw => hW (.inl (by rw [clsIn_ne (by rw [hw]; simp), hw]))) (fun hC => ?_) i fun ha => by have := (hid ha).1; omega
      cases hpl : plainOp E y.op with
      | true => rfl
      | false => exact (hW (.inr (by unfold clsIn; rw [hC]; simp [hpl]))).elim
  · exact ⟨w, c, ⟨putF st.fr y.dst (.tuple []), st.hp⟩, a.put y.dst undef, .tuple [], ⟨sim.wf, put_rep sim.fr _ rep_undef⟩, hk, rfl, .inr fun _ _ => rfl, .refl _ _ _⟩

structure Good (tt : TTab) (base : Nat) (rem : List Item') (h : Heap) : Prop where
  slot : ∀ z ∈ rem, isAlloc tt z.2.1 = true → base ≤ z.2.2 ∧ z.2.2 < h.length ∧ h.at z.2.2 = .free
  apart : rem.Pairwise fun z z' => isAlloc tt z.2.1 = true → isAlloc tt z'.2.1 = true → z.2.2 ≠ z'.2.2

theorem Good.sub {base : Nat} {rem rem' : List Item'} (g : Good tt base rem h) (hs : List.Sublist rem' rem) : Good tt base rem' h :=
  ⟨fun z hz => g.slot z (hs.subset hz), g.apart.sublist hs⟩

theorem Good.step {base : Nat} {x : Item'} {pre post : List Item'} (g : Good tt base (pre ++ x :: post) h) (kp : Keeps (isAlloc tt x.2.1) x.2.2 h h') : Good tt base (pre ++ post) h' := by
  have hs : List.Sublist (pre ++ post) (pre ++ x :: post) := List.Sublist.append (List.Sublist.refl _) (List.sublist_cons_self _ _)
  refine ⟨fun z hz ha => ?_, g.apart.sublist hs⟩
  obtain ⟨h1, h2, h3⟩ := g.slot z (hs.subset hz) ha
  refine ⟨h1, Nat.lt_of_lt_of_le h2 kp.1, kp.2 _ (fun hx => ?_) h2 h3⟩
  have hp := g.apart
  rw [List.pairwise_append, List.pairwise_cons] at hp
  rcases List.mem_append.1 hz with hz | hz
  · exact hp.2.2 z hz x (by simp) ha hx
  · exact fun e => hp.2.1.1 z hz hx ha e.symm

theorem pairOk_symm {E : Env R} {all : List Oper} {x y : Oper} (h : pairOk tt E all x y = true) : pairOk tt E all y x = true := by
  simp only [pairOk, Bool.and_eq_true] at h ⊢
  obtain ⟨h1, h2⟩ := h
  refine ⟨?_, ?_⟩
  · revert h1; cases clsIn tt E x.op <;> cases clsIn tt E y.op <;> simp [clsOk]
  · obtain ⟨a1, a2, a3⟩ := apart_spec h2
    simp only [apartB, Bool.and_eq_true]
    constructor
    · cases hd : y.dst with
      | none => rfl
      | some d =>
        have h3 := a3 d hd
        have h4 : x.dst ≠ some d := fun e => a2 d e hd
        simp [h3, h4]
    · cases hd : x.dst with
      | none => rfl
      | some d => simp [a1 d hd]

theorem Agree.symm {all : List Oper} {base : Nat} {x : Oper} {s t : St} (h : Agree all tt base x s t) : Agree all tt base x t s := ⟨fun u hu => (h.1 u hu).symm, fun hR i hi => (h.2 hR i hi).symm⟩
theorem Agree.trans {all : List Oper} {base : Nat} {x : Oper} {s t u : St} (h : Agree all tt base x s t) (h' : Agree all tt base x t u) : Agree all tt base x s u :=
  ⟨fun v hv => (h'.1 v hv).trans (h.1 v hv), fun hR i hi => (h'.2 hR i hi).trans (h.2 hR i hi)⟩

/-- Behind another operation the same is seen. -/
theorem agree_behind {E : Env R} {all : List Oper} {base : Nat} {x y : Oper} (hp : pairOk tt E all y x = true) {st st1 : St} {v : V} (hf : st1.fr = putF st.fr y.dst v) (hh : turns tt E y.op ∨ ∀ i, i < base → st1.hp.at i = st.hp.at i) :
    Agree all tt base x st st1 := by
  simp only [pairOk, Bool.and_eq_true] at hp
  obtain ⟨h1, h2⟩ := hp
  refine ⟨fun t ht => ?_, fun hR i hi => ?_⟩
  · rw [hf]
    exact putF_getD fun e => (apart_spec h2).1 t e ht
  · rcases hh with hW | hh
    · rw [clsIn_ne (o := x.op) (by rw [hR]; simp), hR] at h1
      rcases hW with hW | hW <;> rw [hW] at h1 <;> cases h1
    · exact hh i hi

section
variable {E : Env R} {base : Nat} {ops : Array Oper} {k : St → Option R} {r : R}

/-- What gives one result may come first. -/
theorem pull {x : Item'} {e : Eff} {st0 : St} (hc : calm (opCls tt x.2.1.op) = true) (he : e.dst = x.2.1.dst) (hput : ∀ i ob, e.put = some (i, ob) → i = x.2.2 ∧ opCls tt x.2.1.op = .A)
    (hnat : ∀ st2, Agree ops.toList tt base x.2.1 st0 st2 → ∀ k, one tt E base ops.toList x.2.1 x.2.2 st2 k = k (eff st2 e)) (post : List Item') :
    ∀ (pre : List Item') (st : St) (h : Heap), Good tt base (pre ++ x :: post) h → (∀ y ∈ pre, pairOk tt E ops.toList y.2.1 x.2.1 = true) → Agree ops.toList tt base x.2.1 st0 st →
      opsP tt E base ops.toList (pre ++ x :: post) st k = opsP tt E base ops.toList (pre ++ post) (eff st e) k
  | [], st, _, _, _, ha => hnat st ha _
  | y :: pre, st, h, g, hp, ha => by
    have hpy := hp y (by simp)
    have gx : isAlloc tt x.2.1 = true → base ≤ x.2.2 := fun hx => (g.slot x (by simp) hx).1
    have gy : isAlloc tt y.2.1 = true → base ≤ y.2.2 := fun hx => (g.slot y (by simp) hx).1
    have gne : isAlloc tt x.2.1 = true → isAlloc tt y.2.1 = true → x.2.2 ≠ y.2.2 := fun hx hy => by
      have := g.apart
      rw [List.cons_append, List.pairwise_cons] at this
      exact fun e => this.1 x (by simp) hy hx e.symm
    simp only [List.cons_append, opsP]
    rw [one_eff (pairOk_symm hpy) hc he hput gne gx]
    refine one_congr gy fun v hp' hh => ?_
    exact pull hc he hput hnat post pre _ h (g.sub (List.sublist_cons_self _ _)) (fun z hz => hp z (by simp [hz])) (ha.trans (agree_behind hpy rfl hh))

/-- Somewhere it is done. -/
theorem find (T : TOK P tt) (hE : EOk P E) {x : Item'} (post : List Item') : ∀ (pre : List Item') (w : World) (c : Cfg) (st : St) (a : Act), Sim w c st a → Good tt base (pre ++ x :: post) st.hp → (∀ y ∈ pre, pairOk tt E ops.toList y.2.1 x.2.1 = true) →
    opsP tt E base ops.toList (pre ++ x :: post) st k = some r → ∃ st' k', Agree ops.toList tt base x.2.1 st st' ∧ one tt E base ops.toList x.2.1 x.2.2 st' k' = some r
  | [], _, _, st, _, _, _, _, hk => ⟨st, _, ⟨fun _ _ => rfl, fun _ _ _ => rfl⟩, hk⟩
  | y :: pre, w, c, st, a, sim, g, hp, hk => by
    simp only [List.cons_append, opsP] at hk
    obtain ⟨w1, c1, st1, a1, v, s1, hk1, hf, hh, kp⟩ := one_reach T hE hk sim (fun ha => g.slot y (by simp) ha)
    obtain ⟨st', k', h1, h2⟩ := find T hE post pre w1 c1 st1 a1 s1 (Good.step (pre := []) g kp) (fun z hz => hp z (by simp [hz])) hk1
    exact ⟨st', k', (agree_behind (hp y (by simp)) hf hh).trans h1, h2⟩

/-- What changes the world more comes first if all ahead of it give one result. -/
theorem pullW {x : Item'} (post : List Item') : ∀ (pre : List Item') (st : St) (h : Heap), Good tt base (pre ++ x :: post) h → (∀ y ∈ pre, pairOk tt E ops.toList y.2.1 x.2.1 = true ∧ calm (opCls tt y.2.1.op) = true) →
    opsP tt E base ops.toList (pre ++ x :: post) st k = some r → one tt E base ops.toList x.2.1 x.2.2 st (fun st1 => opsP tt E base ops.toList (pre ++ post) st1 k) = some r
  | [], _, _, _, _, hk => hk
  | y :: pre, st, h, g, hp, hk => by
    obtain ⟨hpy, hcy⟩ := hp y (by simp)
    simp only [List.cons_append, opsP] at hk ⊢
    obtain ⟨e, h1, h2, h3, h4⟩ := one_nat hcy hk
    have gx : isAlloc tt x.2.1 = true → base ≤ x.2.2 := fun hx => (g.slot x (by simp) hx).1
    have gy : isAlloc tt y.2.1 = true → base ≤ y.2.2 := fun hx => (g.slot y (by simp) hx).1
    have gne : isAlloc tt y.2.1 = true → isAlloc tt x.2.1 = true → y.2.2 ≠ x.2.2 := fun hy hx => by
      have := g.apart
      rw [List.cons_append, List.pairwise_cons] at this
      exact this.1 x (by simp) hy hx
    have ih := pullW post pre (eff st e) h (g.sub (List.sublist_cons_self _ _)) (fun z hz => hp z (by simp [hz])) h3
    rw [one_eff hpy hcy h1 h2 gne gy] at ih
    rw [← ih]
    refine one_congr gx fun v hp' hh => ?_
    exact h4 _ (agree_behind (pairOk_symm hpy) rfl hh) _

/-- EACH THAT MAY COME FIRST MAY COME FIRST. -/
theorem bubble (T : TOK P tt) (hE : EOk P E) {x : Item'} {pre post : List Item'} {st : St} {a : Act} (sim : Sim w c st a) (g : Good tt base (pre ++ x :: post) st.hp) (hp : ∀ y ∈ pre, pairOk tt E ops.toList y.2.1 x.2.1 = true)
    (hk : opsP tt E base ops.toList (pre ++ x :: post) st k = some r) : one tt E base ops.toList x.2.1 x.2.2 st (fun st1 => opsP tt E base ops.toList (pre ++ post) st1 k) = some r := by
  by_cases hc : calm (opCls tt x.2.1.op) = true
  · obtain ⟨st', k', h1, h2⟩ := find T hE post pre w c st a sim g hp hk
    obtain ⟨e, e1, e2, _, e4⟩ := one_nat hc h2
    rw [e4 st h1.symm, ← pull hc e1 e2 e4 post pre st _ g hp h1.symm]
    exact hk
  · refine pullW post pre st _ g (fun y hy => ⟨hp y hy, ?_⟩) hk
    have := hp y hy
    simp only [pairOk, Bool.and_eq_true] at this
    have h1 := this.1
    have hy : clsIn tt E y.2.1.op = .P ∨ clsIn tt E y.2.1.op = .R ∨ clsIn tt E y.2.1.op = .A := by
      have hx : ¬ calm (clsIn tt E x.2.1.op) = true := by
        unfold clsIn
        split
        · cases plainOp E x.2.1.op <;> simp [calm]
        · exact hc
      revert h1 hx
      cases clsIn tt E x.2.1.op <;> cases clsIn tt E y.2.1.op <;> simp [clsOk, calm]
    have hne : opCls tt y.2.1.op ≠ .C := fun e => by
      unfold clsIn at hy
      rw [e] at hy
      cases hp2 : plainOp E y.2.1.op <;> simp [hp2] at hy
    rw [clsIn_ne hne] at hy
    rcases hy with h | h | h <;> rw [h] <;> rfl
end

/-! ### any order -/
theorem number_mem : ∀ (l : List Oper) (i id : Nat) (x : Item'), x ∈ number tt l i id → i ≤ x.1 ∧ x.1 < i + l.length ∧ l[x.1 - i]? = some x.2.1 ∧ id ≤ x.2.2 ∧ (isAlloc tt x.2.1 = true → x.2.2 < id + (l.filter (isAlloc tt)).length)
  | [], _, _, _, h => by simp [number] at h
  | o :: l, i, id, x, h => by
    simp only [number, List.mem_cons] at h
    rcases h with rfl | h
    · refine ⟨Nat.le_refl _, by simp, by simp, Nat.le_refl _, fun ha => ?_⟩
      simp only at ha
      simp only [List.filter_cons_of_pos ha, List.length_cons]
      omega
    · obtain ⟨h1, h2, h3, h4, h5⟩ := number_mem l _ _ x h
      have e : x.1 - i = (x.1 - (i + 1)) + 1 := by omega
      refine ⟨by omega, by simp; omega, by rw [e]; simpa using h3, ?_, fun ha => ?_⟩
      · split at h4 <;> omega
      · have := h5 ha
        by_cases ho : isAlloc tt o = true
        · rw [if_pos ho] at this
          rw [List.filter_cons_of_pos ho, List.length_cons]; omega
        · rw [if_neg ho] at this
          rw [List.filter_cons_of_neg ho]; omega

theorem number_pairs : ∀ (l : List Oper) (i id : Nat), (number tt l i id).Pairwise fun z z' => z.1 < z'.1 ∧ (isAlloc tt z.2.1 = true → isAlloc tt z'.2.1 = true → z.2.2 ≠ z'.2.2)
  | [], _, _ => by simp [number]
  | o :: l, i, id => by
    simp only [number, List.pairwise_cons]
    refine ⟨fun z hz => ?_, number_pairs l _ _⟩
    obtain ⟨h1, _, _, h4, _⟩ := number_mem l _ _ z hz
    refine ⟨by omega, fun ha _ => ?_⟩
    rw [if_pos ha] at h4
    omega

theorem number_all : ∀ (l : List Oper) (i id j : Nat), i ≤ j → j < i + l.length → ∃ x ∈ number tt l i id, x.1 = j
  | [], i, _, j, h1, h2 => by simp at h2; omega
  | o :: l, i, id, j, h1, h2 => by
    by_cases e : i = j
    · exact ⟨(i, o, id), by simp [number], e⟩
    · obtain ⟨x, hx, ex⟩ := number_all l (i + 1) (if isAlloc tt o then id + 1 else id) j (by omega) (by simp at h2; omega)
      exact ⟨x, by simp [number, hx], ex⟩

structure Left (ops : Array Oper) (b : List (List Nat)) (listed : Array Bool) (rem : List Item') : Prop where
  size : listed.size = ops.size
  sorted : rem.Pairwise fun z z' => z.1 < z'.1
  op : ∀ x ∈ rem, ops[x.1]? = some x.2.1
  un : ∀ x ∈ rem, listed.getD x.1 true = false
  all : ∀ i, listed.getD i true = false → ∃ x ∈ rem, x.1 = i
  closed : ∀ m, listed.getD m false = true → ∀ i ∈ b.getD m [], listed.getD i false = true

theorem listed_iff {listed : Array Bool} {i : Nat} (h : i < listed.size) : listed.getD i false = true ↔ ¬ listed.getD i true = false := by
  simp [h]

theorem any_sound (T : TOK P tt) {E : Env R} (hE : EOk P E) {base : Nat} {ops : Array Oper} {b : List (List Nat)} {k : St → Option R} {r : R} {Q : Exit → Act → World → Prop}
    (hpair : ∀ i j x y, i < j → ops[i]? = some x → ops[j]? = some y → i ∈ b.getD j [] ∨ pairOk tt E ops.toList x y = true)
    (hback : ∀ (j : Nat) (y : Oper), ops[j]? = some y → ∀ e ∈ y.after, Region.binds .any e = true → e.on < j)
    (hclo : ∀ (j : Nat) (y : Oper), ops[j]? = some y → ∀ i ∈ b.getD j [], ∃ e ∈ y.after, Region.binds .any e = true ∧ (e.on = i ∨ i ∈ b.getD e.on [])) :
    ∀ (fuel : Nat) (listed : Array Bool) (rem : List Item') (w : World) (c : Cfg) (st : St) (a : Act), rem.length ≤ fuel → Left ops b listed rem → Good tt base rem st.hp → Sim w c st a → opsP tt E base ops.toList rem st k = some r →
      Goes w c st a k r (Q .normal) → wpAny P .any ops Q fuel listed a w := by
  intro fuel
  -- if nothing is ready, nothing is left
  have hnone : ∀ listed rem, Left ops b listed rem → Region.ready .any ops listed = [] → rem = [] := by
    intro listed rem lf hr
    cases rem with
    | nil => rfl
    | cons x rest =>
      have : x.1 ∈ Region.ready .any ops listed := by
        rw [mem_ready]
        refine ⟨lf.un x (by simp), x.2.1, lf.op x (by simp), fun e he hb => ?_⟩
        have hlt := hback x.1 x.2.1 (lf.op x (by simp)) e he hb
        have hx : x.1 < ops.size := (Array.getElem?_eq_some_iff.1 (lf.op x (by simp))).1
        rw [listed_iff (by rw [lf.size]; omega)]
        intro hun
        obtain ⟨y, hy, ey⟩ := lf.all _ hun
        rcases List.mem_cons.1 hy with rfl | hy
        · omega
        · have := (List.pairwise_cons.1 lf.sorted).1 y hy
          omega
      rw [hr] at this
      cases this
  induction fuel with
  | zero =>
    intro listed rem w c st a hl lf g sim hk go
    obtain rfl : rem = [] := List.eq_nil_of_length_eq_zero (by omega)
    refine ⟨?_, go a w st c sim (.refl _ _ _) rfl hk⟩
    cases hr : Region.ready .any ops listed with
    | nil => rfl
    | cons i l =>
      have hi : i ∈ Region.ready .any ops listed := by rw [hr]; simp
      obtain ⟨x, hx, _⟩ := lf.all i (mem_ready.1 hi).1
      cases hx
  | succ fuel ih =>
    intro listed rem w c st a hl lf g sim hk go
    refine ⟨fun hr => ?_, fun i hi => ?_⟩
    · obtain rfl := hnone _ _ lf hr
      exact go a w st c sim (.refl _ _ _) rfl hk
    · obtain ⟨hun, o, ho, hdone⟩ := mem_ready.1 hi
      obtain ⟨x, hx, rfl⟩ := lf.all i hun
      obtain ⟨pre, post, rfl⟩ := List.append_of_mem hx
      have hox := lf.op x (by simp)
      rw [hox] at ho
      cases ho
      have hsort := lf.sorted
      rw [List.pairwise_append, List.pairwise_cons] at hsort
      have hbx : ∀ j ∈ b.getD x.1 [], listed.getD j false = true := fun j hj => by
        obtain ⟨e, he, hb, hor⟩ := hclo x.1 x.2.1 hox j hj
        have hel := hdone e he hb
        rcases hor with rfl | hj
        · exact hel
        · exact lf.closed _ hel j hj
      have hpr : ∀ y ∈ pre, pairOk tt E ops.toList y.2.1 x.2.1 = true := fun y hy => by
        rcases hpair y.1 x.1 y.2.1 x.2.1 (hsort.2.2 y hy x (by simp)) (lf.op y (by simp [hy])) hox with h1 | h1
        · have h2 := hbx _ h1
          have h3 := lf.un y (by simp [hy])
          have hy' : y.1 < ops.size := (Array.getElem?_eq_some_iff.1 (lf.op y (by simp [hy]))).1
          rw [listed_iff (by rw [lf.size]; exact hy')] at h2
          exact (h2 h3).elim
        · exact h1
      have hone := bubble T hE sim g hpr hk
      have hsize : x.1 < listed.size := by rw [lf.size]; exact (Array.getElem?_eq_some_iff.1 hox).1
      have lf' : Left ops b (listed.setIfInBounds x.1 true) (pre ++ post) := by
        have hs : List.Sublist (pre ++ post) (pre ++ x :: post) := List.Sublist.append (List.Sublist.refl _) (List.sublist_cons_self _ _)
        have hne : ∀ y ∈ pre ++ post, x.1 ≠ y.1 := fun y hy => by
          rcases List.mem_append.1 hy with hy | hy
          · have := hsort.2.2 y hy x (by simp); omega
          · have := hsort.2.1.1 y hy; omega
        refine ⟨by simp [lf.size], lf.sorted.sublist hs, fun y hy => lf.op y (hs.subset hy), fun y hy => ?_, fun j hj => ?_, fun m hm j hj => ?_⟩
        · rw [getD_set_ne true (hne y hy)]; exact lf.un y (hs.subset hy)
        · by_cases e : x.1 = j
          · subst e; simp [hsize] at hj
          · rw [getD_set_ne true e] at hj
            obtain ⟨y, hy, ey⟩ := lf.all j hj
            refine ⟨y, ?_, ey⟩
            rcases List.mem_append.1 hy with h1 | h1
            · exact List.mem_append_left _ h1
            · rcases List.mem_cons.1 h1 with rfl | h1
              · exact (e ey).elim
              · exact List.mem_append_right _ h1
        · refine getD_set_true ?_
          by_cases e : x.1 = m
          · subst e; exact hbx j hj
          · rw [getD_set_ne false e] at hm; exact lf.closed m hm j hj
      have hl' : (pre ++ post).length ≤ fuel := by simp at hl ⊢; omega
      unfold wpOp
      simp only [hox]
      rcases guardK_sound sim hone with ⟨hw, hone⟩ | ⟨hw, hone⟩
      · rw [if_pos hw]
        refine .inl (stepK_sound T hE hone sim (fun ha => (g.slot x (by simp) ha).2) fun d w' st' c' v sim' xt kp _ _ hk' => ?_)
        exact ih _ _ w' c' st' _ hl' lf' (g.step kp) sim' hk' fun a2 w2 st2 c2 s2 x2 d2 k2 => go a2 w2 st2 c2 s2 (xt.trans x2) (d2.trans (put_defers _ _ _)) k2
      · rw [if_neg (by simp [hw])]
        exact ih _ _ w c ⟨putF st.fr x.2.1.dst (.tuple []), st.hp⟩ (a.put x.2.1.dst undef) hl' lf' (g.step (.refl _ _ _)) ⟨sim.wf, put_rep sim.fr _ rep_undef⟩ hone fun a2 w2 st2 c2 s2 x2 d2 k2 => go a2 w2 st2 c2 s2 x2 (d2.trans (put_defers _ _ _)) k2

/-- The world's count of draws is nobody's. -/
theorem drawn_ext (n : Nat) : Ext w h c { w with drawn := n } h c where
  os := rfl
  tape := rfl
  output := rfl
  size := Nat.le_refl _
  used := fun _ hi => hi
  same := fun i hi hd => ⟨sim_refl (live_of hi.2 hd) (fun _ _ => .inr trivial), rfl, rfl⟩
  cell := fun _ _ _ _ => rfl
  block := fun _ _ _ => rfl
  owns := fun _ _ _ ho => ho
  ext := rfl
  arr := fun b arr e fz hb => ⟨arr, fz, hb, rfl⟩

theorem drawn_wf (wf : WF w h c) (n : Nat) : WF { w with drawn := n } h c where
  disj := wf.disj
  extlt := wf.extlt
  obj := fun i hi => by
    by_cases hl : (h.at i).live
    · exact (wf.obj i hi).keep (drawn_ext n) (fun _ _ => rfl) rfl rfl
    · have h0 : h.at i = .free ∨ h.at i = .dead := by revert hl; cases h.at i <;> simp [AObj.live]
      rcases h0 with h0 | h0 <;> rw [h0] <;> trivial
  inj := wf.inj

/-- A REGION THAT DRAWS ITS ORDER. -/
theorem draw_sound (T : TOK P tt) (hm : P.follows .mixedOrders = true) {E : Env R} (hE : EOk P E) {id : Nat} {ops : Array Oper} {k : St → Option R} {r : R} {Q : Exit → Act → World → Prop} {st : St} {a : Act}
    (hk : regionK tt E ops.toList true st k = some r) (sim : Sim w c st a) (go : Goes w c st a k r (Q .normal)) : (Code.region id ops true).wp P Q a w := by
  refine wp_region_any hm ?_
  simp only [regionK, if_true] at hk
  split at hk <;> try (first | cases hk)
  rename_i hd
  rw [opsK_eq _ 0] at hk
  have hall : ∀ j, j < ops.size → ((List.range j).all (fun i => ((beforeL ops.toList).getD j []).contains i || pairOk tt E ops.toList (ops.toList.getD i default) (ops.toList.getD j default)) = true ∧
      (bindsOf (ops.toList.getD j default)).all (fun i => decide (i < j)) = true ∧ ((beforeL ops.toList).getD j []).all (fun i => (bindsOf (ops.toList.getD j default)).any fun e => e == i || ((beforeL ops.toList).getD e []).contains i) = true) := by
    intro j hj
    unfold drawOk at hd
    simp only at hd
    rw [List.all_eq_true] at hd
    have := hd j (by simpa using hj)
    simp only [Bool.and_eq_true] at this
    exact ⟨this.1.1, this.1.2, this.2⟩
  have hget : ∀ (j : Nat) (y : Oper), ops[j]? = some y → ops.toList.getD j default = y ∧ j < ops.size := fun j y hy => by
    refine ⟨?_, (Array.getElem?_eq_some_iff.1 hy).1⟩
    rw [List.getD, Array.getElem?_toList, hy]; rfl
  have hbind : ∀ (y : Oper) (n : Nat), n ∈ bindsOf y ↔ ∃ e ∈ y.after, Region.binds .any e = true ∧ e.on = n := by
    intro y n
    simp [bindsOf, List.mem_map, List.mem_filter, and_assoc]
  have sim' : Sim { w with drawn := w.drawn + 1 } c ⟨st.fr, st.hp ++ List.replicate (ops.toList.filter (isAlloc tt)).length .free⟩ a :=
    ⟨drawn_wf (slots_wf sim.wf _) _, (sim.fr.mono (slots_ext _)).mono (drawn_ext _)⟩
  refine any_sound T hE (base := st.hp.length) (b := beforeL ops.toList) (fun i j x y hij hx hy => ?_) (fun j y hy e he hb => ?_) (fun j y hy i hi => ?_) ops.size _ (number tt ops.toList 0 st.hp.length) _ c _ a ?_ ?_ ?_ sim' hk ?_
  · obtain ⟨h1, h2⟩ := hget i x hx
    obtain ⟨h3, h4⟩ := hget j y hy
    have := List.all_eq_true.1 (hall j h4).1 i (by simpa using hij)
    rw [h1, h3] at this
    simpa [Bool.or_eq_true] using this
  · obtain ⟨h3, h4⟩ := hget j y hy
    have := (hall j h4).2.1
    rw [h3, List.all_eq_true] at this
    simpa using this e.on ((hbind y _).2 ⟨e, he, hb, rfl⟩)
  · obtain ⟨h3, h4⟩ := hget j y hy
    have := (hall j h4).2.2
    rw [h3, List.all_eq_true] at this
    obtain ⟨n, hn, hor⟩ := List.any_eq_true.1 (this i hi)
    obtain ⟨e, he, hb, rfl⟩ := (hbind y n).1 hn
    exact ⟨e, he, hb, by simpa using hor⟩
  · have : ∀ (l : List Oper) (i id : Nat), (number tt l i id).length = l.length := by
      intro l
      induction l with
      | nil => intros; rfl
      | cons o l ih => intros; simp [number, ih]
    rw [this]; simp
  · refine ⟨by simp, (number_pairs _ _ _).imp fun h => h.1, fun x hx => ?_, fun x hx => ?_, fun i hi => ?_, fun m hm => ?_⟩
    · obtain ⟨_, _, h3, _⟩ := number_mem _ _ _ x hx
      simpa using h3
    · obtain ⟨_, h2, _⟩ := number_mem _ _ _ x hx
      simp at h2
      simp [h2]
    · have : i < ops.size := by
        rcases Nat.lt_or_ge i ops.size with h | h
        · exact h
        · simp [Nat.not_lt.2 h] at hi
      exact number_all _ 0 _ i (Nat.zero_le _) (by simpa using this)
    · rcases Nat.lt_or_ge m ops.size with h | h
      · simp [h] at hm
      · simp [Nat.not_lt.2 h] at hm
  · refine ⟨fun z hz ha => ?_, (number_pairs _ _ _).imp fun h => h.2⟩
    obtain ⟨_, _, _, h4, h5⟩ := number_mem _ _ _ z hz
    have h5 := h5 ha
    refine ⟨h4, by simp; omega, ?_⟩
    rw [at_append_right h4]
    have : z.2.2 - st.hp.length < (ops.toList.filter (isAlloc tt)).length := by omega
    simp [Heap.at, List.getD, List.getElem?_replicate, this]
  · exact fun a2 w2 st2 c2 s2 x2 d2 k2 => go a2 w2 st2 c2 s2 (((slots_ext _).trans (drawn_ext _)).trans x2) d2 k2
end
end Go.Yard
