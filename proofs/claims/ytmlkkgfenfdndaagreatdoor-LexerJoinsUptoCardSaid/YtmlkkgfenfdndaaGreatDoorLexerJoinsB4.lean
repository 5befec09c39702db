/-
  LexerJoins: for every input whose bulk is at most 1048576 the law returns true, and each argument reads behind the call as it read before; part 4 of 9 of the proof: an interpreter of the model's code over typed data, proved sound; the functions that the law reaches, printed as Lean functions and tied; the plain law. Own texts laid one behind the other.
-/
import Derived.ChangeKeysEq
import Derived.Test.YtmlkkgfenfdndaaGreatDoorLexerJoinsB3
set_option linter.unusedSimpArgs false
set_option linter.unnecessarySimpa false
set_option linter.unusedVariables false
set_option linter.unusedSectionVars false
namespace Go.Yard
open Go.RowKit

section
variable {P : Program} {tt : TTab} {w : World} {h : Heap} {c : Cfg}

def Scal (P : Program) (ty : TypeId) (z : V) : Prop :=
  (∃ k n, z = .int k n ∧ P.underlying ty = some (.int k)) ∨ (∃ s, z = .str s ∧ P.underlying ty = some .string) ∨ (∃ b, z = .bool b ∧ P.underlying ty = some .bool)

theorem scal_part {ty : TypeId} {z : V} (s : Scal P ty z) {xs : Array Value} {j : Nat} {x : Value} (hx : xs[j]? = some x) : (part ty xs j).run P w = .ok x w := by
  rcases s with ⟨k, n, _, hu⟩ | ⟨n, _, hu⟩ | ⟨n, _, hu⟩ <;> simp [part, Go.isAgg, run_underlying hu, hx]

theorem eqF (d : Nat) (xs ys : Array Value) : ∀ (fs : List Field) (zs cs ds : List V) (j : Nat) (b : Bool), (∀ i f z, fs[i]? = some f → zs[i]? = some z → f.name ≠ "_" ∧ f.offset = j + i ∧ Scal P f.type z) → fs.length = zs.length →
    kindsOk zs cs = true → kindsOk zs ds = true → eqCells cs ds = some b → (∀ i v, cs[i]? = some v → ∃ x, xs[j + i]? = some x ∧ Rep w h c v x) → (∀ i v, ds[i]? = some v → ∃ x, ys[j + i]? = some x ∧ Rep w h c v x) →
    (Op.eqFields (d + 1) xs ys fs).run P w = .ok b w
  | [], zs, cs, ds, j, b, _, hl, hc, hd, he, _, _ => by
    have : zs = [] := List.eq_nil_of_length_eq_zero hl.symm
    subst this
    cases cs with
    | cons => cases hc
    | nil =>
      cases ds with
      | cons => cases hd
      | nil => cases he; simp [Op.eqFields]
  | f :: fs, [], _, _, _, _, _, hl, _, _, _, _, _ => by cases hl
  | f :: fs, z :: zs, cs, ds, j, b, hf, hl, hc, hd, he, hx, hy => by
    obtain ⟨h1, h2, h3⟩ := hf 0 f z rfl rfl
    have hf' : ∀ i g y, fs[i]? = some g → zs[i]? = some y → g.name ≠ "_" ∧ g.offset = (j + 1) + i ∧ Scal P g.type y := fun i g y hg hy => by
      have := hf (i + 1) g y (by simpa using hg) (by simpa using hy)
      exact ⟨this.1, by omega, this.2.2⟩
    have hl' : fs.length = zs.length := by simpa using hl
    cases cs with
    | nil => cases z <;> cases hc
    | cons c0 cs =>
      cases ds with
      | nil => cases z <;> cases hd
      | cons d0 ds =>
        obtain ⟨x, hx0, rx⟩ := hx 0 c0 rfl
        obtain ⟨y, hy0, ry⟩ := hy 0 d0 rfl
        have hx' : ∀ i v, cs[i]? = some v → ∃ x, xs[(j + 1) + i]? = some x ∧ Rep w h c v x := fun i v hv => by
          obtain ⟨x, q1, q2⟩ := hx (i + 1) v (by simpa using hv)
          exact ⟨x, by rw [← q1]; congr 1; omega, q2⟩
        have hy' : ∀ i v, ds[i]? = some v → ∃ x, ys[(j + 1) + i]? = some x ∧ Rep w h c v x := fun i v hv => by
          obtain ⟨x, q1, q2⟩ := hy (i + 1) v (by simpa using hv)
          exact ⟨x, by rw [← q1]; congr 1; omega, q2⟩
        have p1 := scal_part (w := w) h3 hx0
        have p2 := scal_part (w := w) h3 hy0
        have fin : ∀ (r : Bool), (Op.equalIn (d + 1) f.type x y).run P w = .ok r w → ∀ b', eqCells cs ds = some b' → kindsOk zs cs = true → kindsOk zs ds = true → b = (r && b') → (Op.eqFields (d + 1) xs ys (f :: fs)).run P w = .ok b w := by
          intro r hr b' hb' kc kd hb
          subst hb
          have ih := eqF d xs ys fs zs cs ds (j + 1) b' hf' hl' kc kd hb' hx' hy'
          simp only [Op.eqFields, h1, ne_eq, not_false_eq_true, if_true, Sem.run_bind, h2, Nat.add_zero, p1, p2, Result.andThen_ok, hr]
          simp only [Nat.add_zero] at p1 p2
          simp only [p1, p2, Result.andThen_ok, hr]
          cases r with
          | true => simpa using ih
          | false => simp
        rcases h3 with ⟨k, n, rfl, hu⟩ | ⟨s, rfl, hu⟩ | ⟨q, rfl, hu⟩
        · cases c0 with
          | int k1 n1 =>
            cases d0 with
            | int k2 n2 =>
              simp only [kindsOk, Bool.and_eq_true, decide_eq_true_eq] at hc hd
              obtain ⟨rfl, hc⟩ := hc
              obtain ⟨rfl, hd⟩ := hd
              cases rx
              cases ry
              simp only [eqCells, if_true] at he
              split at he
              · rename_i b' hb'
                cases he
                exact fin _ (run_equalIn_int w d _ _ _ _ _ hu) b' hb' hc hd rfl
              · cases he
            | _ => simp [kindsOk] at hd
          | _ => simp [kindsOk] at hc
        · cases c0 with
          | str s1 =>
            cases d0 with
            | str s2 =>
              simp only [kindsOk] at hc hd
              cases rx
              cases ry
              simp only [eqCells] at he
              split at he
              · rename_i b' hb'
                cases he
                refine fin _ (run_equalIn_string w d _ _ _ hu) b' hb' hc hd ?_
                congr 1
                simp only [ByteArray.toList_eq]
              · cases he
            | _ => simp [kindsOk] at hd
          | _ => simp [kindsOk] at hc
        · cases c0 with
          | bool s1 =>
            cases d0 with
            | bool s2 =>
              simp only [kindsOk] at hc hd
              cases rx
              cases ry
              simp only [eqCells] at he
              split at he
              · rename_i b' hb'
                cases he
                exact fin _ (run_equalIn_bool' w d _ _ _ hu) b' hb' hc hd rfl
              · cases he
            | _ => simp [kindsOk] at hd
          | _ => simp [kindsOk] at hc

def FlatT (P : Program) (ty : TypeId) (g : List V) : Prop :=
  P.underlying ty = some (.struct (P.fieldsOf ty)) ∧ P.stoodInHeld ty = false ∧ (∃ i, P.info? ty = some i) ∧ P.cellsOf ty = g.length ∧ (P.fieldsOf ty).toList.length = g.length ∧
    ∀ i f z, (P.fieldsOf ty).toList[i]? = some f → g[i]? = some z → f.name ≠ "_" ∧ f.offset = 0 + i ∧ Scal P f.type z

def NestOk (P : Program) : List Field → List (List V) → Nat → Prop
  | [], [], _ => True
  | f :: fs, g :: gs, j => f.name ≠ "_" ∧ f.offset = j ∧ ((∃ z, g = [z] ∧ Scal P f.type z) ∨ FlatT P f.type g) ∧ NestOk P fs gs (j + g.length)
  | _, _, _ => False

theorem kindsOk_len : ∀ {zs cs : List V}, kindsOk zs cs = true → cs.length = zs.length
  | [], [], _ => rfl
  | [], _ :: _, h => by cases h
  | z :: _, [], h => by cases z <;> cases h
  | z :: zs, c :: cs, h => by
    have : kindsOk zs cs = true := by
      cases z <;> cases c <;> simp [kindsOk] at h
      · exact h.2
      · exact h
      · exact h
    simp [kindsOk_len this]

theorem kindsOk_split : ∀ {g zs cs : List V}, kindsOk (g ++ zs) cs = true → kindsOk g (cs.take g.length) = true ∧ kindsOk zs (cs.drop g.length) = true
  | [], zs, cs, h => by simpa [kindsOk] using h
  | z :: g, zs, [], h => by cases z <;> cases h
  | z :: g, zs, c :: cs, h => by
    have key : kindsOk (g ++ zs) cs = true := by
      cases z <;> cases c <;> simp [kindsOk] at h
      · exact h.2
      · exact h
      · exact h
    obtain ⟨h1, h2⟩ := kindsOk_split key
    refine ⟨?_, by simpa using h2⟩
    simp only [List.length_cons, List.take_succ_cons]
    cases z <;> cases c <;> simp [kindsOk] at h ⊢
    · exact ⟨h.1, h1⟩
    · exact h1
    · exact h1

theorem eqCells_split : ∀ (n : Nat) {cs ds : List V} {b : Bool}, eqCells cs ds = some b → n ≤ cs.length → ∃ b1 b2, eqCells (cs.take n) (ds.take n) = some b1 ∧ eqCells (cs.drop n) (ds.drop n) = some b2 ∧ b = (b1 && b2)
  | 0, cs, ds, b, h, _ => ⟨true, b, by simp [eqCells], by simpa using h, by simp⟩
  | n + 1, [], _, _, _, hn => by simp at hn
  | n + 1, c :: cs, [], b, h, _ => by cases c <;> cases h
  | n + 1, c :: cs, d :: ds, b, h, hn => by
    have hn' : n ≤ cs.length := by simpa using hn
    simp only [List.take_succ_cons, List.drop_succ_cons]
    cases c <;> cases d <;> simp only [eqCells] at h ⊢ <;> try (first | cases h)
    · split at h
      · rename_i e
        rw [if_pos e]
        split at h
        · rename_i r hr
          cases h
          obtain ⟨b1, b2, h1, h2, h3⟩ := eqCells_split n hr hn'
          rw [h1]
          exact ⟨_, b2, rfl, h2, by rw [h3, Bool.and_assoc]⟩
        · cases h
      · cases h
    · split at h
      · rename_i r hr
        cases h
        obtain ⟨b1, b2, h1, h2, h3⟩ := eqCells_split n hr hn'
        rw [h1]
        exact ⟨_, b2, rfl, h2, by rw [h3, Bool.and_assoc]⟩
      · cases h
    · split at h
      · rename_i r hr
        cases h
        obtain ⟨b1, b2, h1, h2, h3⟩ := eqCells_split n hr hn'
        rw [h1]
        exact ⟨_, b2, rfl, h2, by rw [h3, Bool.and_assoc]⟩
      · cases h

theorem flat_part {ty : TypeId} {g : List V} (s : FlatT P ty g) {xs : Array Value} {j : Nat} : (part ty xs j).run P w = .ok (.agg (xs.extract j (j + g.length))) w := by
  obtain ⟨h1, _, ⟨i, h3⟩, h4, _⟩ := s
  have hs : (sizeOf ty).run P w = .ok g.length w := by
    have : P.cellsOf ty = i.size := by simp [Program.cellsOf, h3]
    rw [← h4, this]
    simp [sizeOf, typeInfo, h3]
  simp [part, Go.isAgg, run_underlying h1, hs]

theorem eqG (d : Nat) (xs ys : Array Value) : ∀ (fs : List Field) (gs : List (List V)) (cs ds : List V) (j : Nat) (b : Bool), NestOk P fs gs j → kindsOk gs.flatten cs = true → kindsOk gs.flatten ds = true → eqCells cs ds = some b →
    (∀ i v, cs[i]? = some v → ∃ x, xs[j + i]? = some x ∧ Rep w h c v x) → (∀ i v, ds[i]? = some v → ∃ x, ys[j + i]? = some x ∧ Rep w h c v x) → (Op.eqFields (d + 2) xs ys fs).run P w = .ok b w
  | [], [], cs, ds, j, b, _, hc, hd, he, _, _ => by
    cases cs with
    | cons => cases hc
    | nil =>
      cases ds with
      | cons => cases hd
      | nil => cases he; simp [Op.eqFields]
  | [], _ :: _, _, _, _, _, hn, _, _, _, _, _ => by cases hn
  | _ :: _, [], _, _, _, _, hn, _, _, _, _, _ => by cases hn
  | f :: fs, g :: gs, cs, ds, j, b, hn, hc, hd, he, hx, hy => by
    obtain ⟨n1, n2, n3, n4⟩ := hn
    rw [List.flatten_cons] at hc hd
    obtain ⟨c1, c2⟩ := kindsOk_split hc
    obtain ⟨d1, d2⟩ := kindsOk_split hd
    have lc := kindsOk_len hc
    have ld := kindsOk_len hd
    rw [List.length_append] at lc ld
    obtain ⟨b1, b2, e1, e2, rfl⟩ := eqCells_split g.length he (by omega)
    have behind : ∀ {cs : List V} {xs : Array Value}, (∀ i v, cs[i]? = some v → ∃ x, xs[j + i]? = some x ∧ Rep w h c v x) → ∀ i v, (cs.drop g.length)[i]? = some v → ∃ x, xs[(j + g.length) + i]? = some x ∧ Rep w h c v x := by
      intro cs xs hx i v hv
      rw [List.getElem?_drop] at hv
      obtain ⟨x, q1, q2⟩ := hx _ v hv
      exact ⟨x, by rw [← q1]; congr 1; omega, q2⟩
    have ih := eqG d xs ys fs gs _ _ (j + g.length) b2 n4 c2 d2 e2 (behind hx) (behind hy)
    -- what the field is
    have key : ∃ x y, (part f.type xs j).run P w = .ok x w ∧ (part f.type ys j).run P w = .ok y w ∧ (Op.equalIn (d + 2) f.type x y).run P w = .ok b1 w := by
      rcases n3 with ⟨z, rfl, hz⟩ | hF
      · -- one cell: the flat case, alone
        cases cs with
        | nil => simp only [List.length_nil, List.length_cons] at lc; omega
        | cons c0 cs =>
          cases ds with
          | nil => simp only [List.length_nil, List.length_cons] at ld; omega
          | cons d0 ds =>
            simp only [List.length_cons, List.length_nil, Nat.zero_add, List.take_succ_cons, List.take_zero] at c1 d1 e1
            obtain ⟨x, hx0, rx⟩ := hx 0 c0 rfl
            obtain ⟨y, hy0, ry⟩ := hy 0 d0 rfl
            rw [Nat.add_zero] at hx0 hy0
            refine ⟨x, y, scal_part hz hx0, scal_part hz hy0, ?_⟩
            rcases hz with ⟨k, n, rfl, hu⟩ | ⟨s, rfl, hu⟩ | ⟨q, rfl, hu⟩
            · cases c0 <;> simp [kindsOk] at c1
              cases d0 <;> simp [kindsOk] at d1
              subst c1 d1
              cases rx
              cases ry
              simp only [eqCells, if_true, Option.some.injEq] at e1
              subst e1
              rw [Bool.and_true]
              exact run_equalIn_int w (d + 1) _ _ _ _ _ hu
            · cases c0 <;> simp [kindsOk] at c1
              cases d0 <;> simp [kindsOk] at d1
              cases rx
              cases ry
              simp only [eqCells, Option.some.injEq] at e1
              subst e1
              rw [Bool.and_true]
              refine (run_equalIn_string w (d + 1) f.type _ _ hu).trans ?_
              congr 1
              simp only [ByteArray.toList_eq]
            · cases c0 <;> simp [kindsOk] at c1
              cases d0 <;> simp [kindsOk] at d1
              cases rx
              cases ry
              simp only [eqCells, Option.some.injEq] at e1
              subst e1
              rw [Bool.and_true]
              exact run_equalIn_bool' w (d + 1) _ _ _ hu
      · refine ⟨_, _, flat_part hF, flat_part hF, ?_⟩
        obtain ⟨h1, h2, h3, h4, h5, h6⟩ := hF
        rw [run_equalIn_struct w (d + 1) f.type _ _ h1 h2]
        have at0 : ∀ {cs : List V} {xs : Array Value}, (∀ i v, cs[i]? = some v → ∃ x, xs[j + i]? = some x ∧ Rep w h c v x) → ∀ i v, (cs.take g.length)[i]? = some v → ∃ x, (xs.extract j (j + g.length))[0 + i]? = some x ∧ Rep w h c v x := by
          intro cs xs hx i v hv
          have hi : i < g.length := by
            have := (List.getElem?_eq_some_iff.1 hv).1
            rw [List.length_take] at this
            omega
          rw [List.getElem?_take_of_lt hi] at hv
          obtain ⟨x, q1, q2⟩ := hx i v hv
          refine ⟨x, ?_, q2⟩
          rw [Nat.zero_add, Array.getElem?_extract]
          have hsz : j + i < xs.size := (Array.getElem?_eq_some_iff.1 q1).1
          rw [if_pos (by omega), q1]
        exact eqF d _ _ _ _ _ _ 0 b1 h6 h5 c1 d1 e1 (at0 hx) (at0 hy)
    obtain ⟨x, y, p1, p2, hr⟩ := key
    simp only [Op.eqFields, n1, ne_eq, not_false_eq_true, if_true, Sem.run_bind, n2, p1, p2, Result.andThen_ok, hr]
    cases b1 with
    | true => simpa using ih
    | false => simp

def EqFlat (P : Program) (tt : TTab) (t : Nat) : Prop :=
  P.underlying t = some (.struct (P.fieldsOf t)) ∧ P.stoodInHeld t = false ∧ P.eqGuardType P.depth t = false ∧ ∃ gs, gs.flatten = (tt.at t).zero ∧ NestOk P (P.fieldsOf t).toList gs 0

def scalB (P : Program) (ty : TypeId) : V → Bool
  | .int k _ => (match P.underlying ty with | some (.int k') => decide (k' = k) | _ => false)
  | .str _ => (match P.underlying ty with | some .string => true | _ => false)
  | .bool _ => (match P.underlying ty with | some .bool => true | _ => false)
  | _ => false

theorem scalB_spec {ty : TypeId} {z : V} (h : scalB P ty z = true) : Scal P ty z := by
  unfold scalB at h
  split at h
  · split at h
    · rename_i k n _ k' hu
      have e : k' = k := by simpa using h
      subst e
      exact .inl ⟨_, _, rfl, hu⟩
    · cases h
  · split at h
    · rename_i hu; exact .inr (.inl ⟨_, rfl, hu⟩)
    · cases h
  · split at h
    · rename_i hu; exact .inr (.inr ⟨_, rfl, hu⟩)
    · cases h
  · cases h

def goodB (P : Program) : List Field → List V → Nat → Bool
  | [], [], _ => true
  | f :: fs, z :: zs, j => decide (f.name ≠ "_") && decide (f.offset = j) && scalB P f.type z && goodB P fs zs (j + 1)
  | _, _, _ => false

theorem goodB_spec : ∀ (fs : List Field) (zs : List V) (j : Nat), goodB P fs zs j = true → fs.length = zs.length ∧ ∀ i f z, fs[i]? = some f → zs[i]? = some z → f.name ≠ "_" ∧ f.offset = j + i ∧ Scal P f.type z
  | [], [], _, _ => ⟨rfl, fun i f z h => by simp at h⟩
  | [], _ :: _, _, h => by cases h
  | _ :: _, [], _, h => by cases h
  | f :: fs, z :: zs, j, h => by
    simp only [goodB, Bool.and_eq_true, decide_eq_true_eq] at h
    obtain ⟨⟨⟨h1, h2⟩, h3⟩, h4⟩ := h
    obtain ⟨g1, g2⟩ := goodB_spec fs zs (j + 1) h4
    refine ⟨by simp [g1], fun i g y hg hy => ?_⟩
    cases i with
    | zero =>
      simp at hg hy
      subst hg; subst hy
      exact ⟨h1, h2, scalB_spec h3⟩
    | succ i =>
      obtain ⟨q1, q2, q3⟩ := g2 i g y (by simpa using hg) (by simpa using hy)
      exact ⟨q1, by omega, q3⟩

def flatB (P : Program) (ty : TypeId) (g : List V) : Bool :=
  (match P.info? ty with | some _ => true | none => false) && Nat.beq (P.cellsOf ty) g.length && !P.stoodInHeld ty && goodB P (P.fieldsOf ty).toList g 0
def goodN (P : Program) : List Field → List V → Nat → Bool
  | [], zs, _ => zs.isEmpty
  | f :: fs, zs, j =>
    decide (f.name ≠ "_") && decide (f.offset = j) &&
      (match P.underlying f.type with
       | some (.struct fl) => flatB P f.type (zs.take fl.size) && goodN P fs (zs.drop fl.size) (j + fl.size)
       | _ => (match zs with | z :: zr => scalB P f.type z && goodN P fs zr (j + 1) | [] => false))

theorem goodN_spec : ∀ (fs : List Field) (zs : List V) (j : Nat), goodN P fs zs j = true → ∃ gs : List (List V), gs.flatten = zs ∧ NestOk P fs gs j
  | [], zs, j, h => ⟨[], by simpa [goodN] using h.symm, trivial⟩
  | f :: fs, zs, j, h => by
    simp only [goodN, Bool.and_eq_true, decide_eq_true_eq] at h
    obtain ⟨⟨h1, h2⟩, h3⟩ := h
    split at h3
    · rename_i fl hu
      rw [Bool.and_eq_true] at h3
      obtain ⟨g1, g2⟩ := h3
      have hfo : P.fieldsOf f.type = fl := by simp [Program.fieldsOf, hu]
      obtain ⟨gs, e1, e2⟩ := goodN_spec fs _ _ g2
      unfold flatB at g1
      simp only [Bool.and_eq_true, Bool.not_eq_true'] at g1
      obtain ⟨⟨⟨k1, k2⟩, k3⟩, k4⟩ := g1
      obtain ⟨q1, q2⟩ := goodB_spec _ _ _ k4
      have hlen : (zs.take fl.size).length = fl.size := by rw [← q1, hfo]; simp
      refine ⟨zs.take fl.size :: gs, by rw [List.flatten_cons, e1, List.take_append_drop], h1, h2, .inr ⟨by rw [hfo]; exact hu, k3, ?_, Nat.eq_of_beq_eq_true k2, q1, q2⟩, by rw [hlen]; exact e2⟩
      cases hi : P.info? f.type with
      | none => rw [hi] at k1; cases k1
      | some i => exact ⟨i, rfl⟩
    · split at h3
      · rename_i z zr
        rw [Bool.and_eq_true] at h3
        obtain ⟨gs, e1, e2⟩ := goodN_spec fs _ _ h3.2
        exact ⟨[z] :: gs, by rw [List.flatten_cons, e1]; rfl, h1, h2, .inl ⟨z, rfl, scalB_spec h3.1⟩, e2⟩
      · cases h3

theorem EqFlat.of {t : Nat} (h1 : P.underlying t = some (.struct (P.fieldsOf t))) (h2 : P.stoodInHeld t = false) (h3 : P.eqGuardType P.depth t = false) (h4 : goodN P (P.fieldsOf t).toList (tt.at t).zero 0 = true) : EqFlat P tt t :=
  ⟨h1, h2, h3, goodN_spec _ _ _ h4⟩

theorem eqOk_eq {i : TI} {a b : List V} (h : eqOk i a b = true) : i.eq = true := by
  unfold eqOk at h
  simp only [Bool.and_eq_true] at h
  exact h.1.1

theorem eqs_flat {t : Nat} (e : EqFlat P tt t) {cs ds : List V} {xs ys : Array Value} {b : Bool} (hk : eqOk (tt.at t) cs ds = true) (rx : RepL w h c cs xs.toList) (ry : RepL w h c ds ys.toList) (hb : eqCells cs ds = some b) :
    P.eqGuardType P.depth t = false ∧ (Op.equalIn 10000 t (.agg xs) (.agg ys)).run P w = .ok b w := by
  obtain ⟨e1, e2, e3, gs, e4, e5⟩ := e
  refine ⟨e3, ?_⟩
  unfold eqOk at hk
  simp only [Bool.and_eq_true] at hk
  rw [run_equalIn_struct w 9999 t xs ys e1 e2]
  have get : ∀ {cs : List V} {xs : Array Value}, RepL w h c cs xs.toList → ∀ i v, cs[i]? = some v → ∃ x, xs[0 + i]? = some x ∧ Rep w h c v x := by
    intro cs xs r i v hv
    have hi := (List.getElem?_eq_some_iff.1 hv).1
    have hl : i < xs.size := by have := r.1; simp at this; omega
    refine ⟨xs[i], by simp [hl], r.2 i v _ hv (by simp [hl])⟩
  exact eqG 9997 xs ys _ gs cs ds 0 b e5 (by rw [e4]; exact hk.1.2) (by rw [e4]; exact hk.2) hb (get rx) (get ry)
end
end Go.Yard

namespace Go.Yard
open Go.RowKit

section
variable {R : Type} {P : Program} {tt : TTab}

mutual
def Json.depth : Json → Nat
  | ⟨_, _, _, _, l⟩ => Json.depthL l + 1
def Json.depthL : List Json → Nat
  | [] => 0
  | x :: l => max x.depth (Json.depthL l)
end
mutual
def Raw.depth : Raw → Nat
  | ⟨_, _, _, _, l⟩ => Raw.depthL l + 1
def Raw.depthL : List Raw → Nat
  | [] => 0
  | x :: l => max x.depth (Raw.depthL l)
end

def Dcm.fu (x : Dcm) : Nat := x.mant.natAbs + x.exp.natAbs
def Json.fu (x : Json) : Nat := x.text.length + x.names.length + x.items.length
def Raw.fu (x : Raw) : Nat := x.text.length + x.items.length
def Raw3.fu (x : Raw3) : Nat := x.kind.natAbs + x.mant.natAbs + x.exp.natAbs + x.text.length
def Fld.fu (x : Fld) : Nat := x.name.length
def Mail.fu (x : Mail) : Nat := x.topic.length + x.data.length
def Token.fu (x : Token) : Nat := x.text.length
def Stop.fu (x : Stop) : Nat := 0
def Way.fu (x : Way) : Nat := 0
def Order.fu (x : Order) : Nat := x.header.natAbs + x.vehicle.length + x.order.natAbs + x.update.natAbs + x.nodes.length + x.edges.length
def Edge.fu (x : Edge) : Nat := 0
def Layout.fu (x : Layout) : Nat := x.nodes.natAbs + x.edges.length
def Topic.fu (x : Topic) : Nat := x.maker.length + x.serial.length + x.kind.length
def State.fu (x : State) : Nat := x.header.natAbs + x.boot.natAbs + x.vehicle.length + x.order.natAbs + x.update.natAbs + x.node.natAbs + x.seq.natAbs + x.accepted.natAbs
def Ctl.fu (x : Ctl) : Nat := x.vehicle.length + x.header.natAbs + x.order.natAbs + x.update.natAbs + x.boot.natAbs + x.seen.natAbs + x.path.length + x.seq.natAbs + x.rel.natAbs + x.pending.header.natAbs + x.pending.vehicle.length + x.pending.order.natAbs + x.pending.update.natAbs + x.pending.nodes.length + x.pending.edges.length
def Op17.fu (x : Op17) : Nat := x.kind.natAbs + x.i.natAbs + x.k.natAbs + x.by_.natAbs + x.data.length
def Raw13.fu (x : Raw13) : Nat := x.header.natAbs + x.order.natAbs + x.update.natAbs + x.seq.natAbs + x.from_.natAbs + x.released.natAbs + x.turns.length
def Ev16.fu (x : Ev16) : Nat := x.kind.natAbs + x.o.header.natAbs + x.o.order.natAbs + x.o.update.natAbs + x.o.seq.natAbs + x.o.from_.natAbs + x.o.released.natAbs + x.o.turns.length + x.data.length
def Ev18.fu (x : Ev18) : Nat := x.kind.natAbs + x.n.natAbs + x.turns.length
def Arr3.fu (x : Arr3) : Nat := x.a.natAbs + x.b.natAbs + x.c.natAbs
def Arr2.fu (x : Arr2) : Nat := x.a.natAbs + x.b.natAbs
def Dec2.fu (x : Dec2) : Nat := x.a.mant.natAbs + x.a.exp.natAbs + x.b.mant.natAbs + x.b.exp.natAbs
def Post.fu (x : Post) : Nat := x.name.length + x.home.natAbs
def Job.fu (x : Job) : Nat := x.id.natAbs + x.target.natAbs + x.state.natAbs + x.vehicle.natAbs
def Record.fu (x : Record) : Nat := x.kind.natAbs + x.nums.length + x.text.length

theorem loop_tie {D : Type} {E : Env R} {L : Nat → Option (Hint × LSpec R)} {m : Nat} {a : Code} {hint : Hint} (enc : D → St)
    (s : (Ex → St → Option R) → (D → Option R) → D → Option R) (A : (Ex → St → Option R) → Nat → D → Option R)
    (h0 : ∀ K d, A K 0 d = none)
    (hB : ∀ K rec' d, roundOf tt E L m a hint (enc d) rec' K = s K (fun d => rec' (enc d)) d)
    (hA : ∀ K n d, A K (n + 1) d = s K (A K n) d) (K : Ex → St → Option R) :
    ∀ n d, loopN (interp tt E L m a) (norm m hint) n (enc d) (fun e st => K e (trim m hint st)) = A K n d
  | 0, d => (h0 K d).symm
  | n + 1, d => by
    rw [loopN_succ, hB, hA]
    exact congrArg (fun q => s K q d) (funext fun d => loop_tie enc s A h0 hB hA K n d)

theorem loopBy_tie {D : Type} {E : Env R} {L : Nat → Option (Hint × LSpec R)} {m : Nat} {a : Code} {hint : Hint} {ps : List Pat} {hs : List HPat}
    {run : Pat.dens ps → HPat.dens hs → (Ex → St → Option R) → Option R} {other : LSpec R} {enc : D → St} {A : (Ex → St → Option R) → Nat → D → Option R}
    (ho : LsOk tt E L m a hint other)
    (tie : ∀ K n d, loopN (interp tt E L m a) (norm m hint) n (enc d) (fun e st => K e (trim m hint st)) = A K n d)
    (fuel : Pat.dens ps → HPat.dens hs → Nat) (dat : Pat.dens ps → HPat.dens hs → D)
    (henc : ∀ x y, (⟨Pat.encL ps x, HPat.encL hs y⟩ : St) = enc (dat x y))
    (hrun : ∀ x y K, run x y K = A K (fuel x y) (dat x y)) : LsOk tt E L m a hint (loopBy ps hs run other) :=
  loopBy_ok ho fun x y K => ⟨fuel x y, by rw [henc, hrun]; exact tie K _ _⟩

end
abbrev bytesN (s : Str) : List Int := bytesI s
end Go.Yard

