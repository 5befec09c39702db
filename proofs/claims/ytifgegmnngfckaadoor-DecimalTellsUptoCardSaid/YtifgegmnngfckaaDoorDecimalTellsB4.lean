/-
  DecimalTells: for every input whose bulk is at most 1048576 the law returns true, and each argument reads behind the call as it read before; part 4 of 9 of the proof: an interpreter of the model's code over typed data, proved sound; the functions that the law reaches, printed as Lean functions and tied; the plain law. Own texts laid one behind the other.
-/
import Derived.Test.YtifgegmnngfckaaDoorDecimalTellsB3
set_option linter.unusedSimpArgs false
set_option linter.unnecessarySimpa false
set_option linter.unusedVariables false
set_option linter.unusedSectionVars false
namespace Go.Yard
open Go.RowKit

section
variable {P : Program} {tt : TTab} {w : World} {h : Heap} {c : Cfg}

def Scal (P : Program) (ty : TypeId) (z : V) : Prop :=
  (∃ k n, z = .int k n ∧ P.underlying ty = some (.int k)) ∨ (∃ s, z = .str s ∧ P.underlying ty = some .string) ∨ (∃ b, z = .bool b ∧ P.underlying ty = some .bool)

theorem scal_part {ty : TypeId} {z : V} (s : Scal P ty z) {xs : Array Value} {j : Nat} {x : Value} (hx : xs[j]? = some x) : (part ty xs j).run P w = .ok x w := by
  rcases s with ⟨k, n, _, hu⟩ | ⟨n, _, hu⟩ | ⟨n, _, hu⟩ <;> simp [part, Go.isAgg, run_underlying hu, hx]

theorem eqF (d : Nat) (xs ys : Array Value) : ∀ (fs : List Field) (zs cs ds : List V) (j : Nat) (b : Bool), (∀ i f z, fs[i]? = some f → zs[i]? = some z → f.name ≠ "_" ∧ f.offset = j + i ∧ Scal P f.type z) → fs.length = zs.length →
    kindsOk zs cs = true → kindsOk zs ds = true → eqCells cs ds = some b → (∀ i v, cs[i]? = some v → ∃ x, xs[j + i]? = some x ∧ Rep w h c v x) → (∀ i v, ds[i]? = some v → ∃ x, ys[j + i]? = some x ∧ Rep w h c v x) →
    (Op.eqFields (d + 1) xs ys fs).run P w = .ok b w
  | [], zs, cs, ds, j, b, _, hl, hc, hd, he, _, _ => by
    have : zs = [] := List.eq_nil_of_length_eq_zero hl.symm
    subst this
    cases cs with
    | cons => cases hc
    | nil =>
      cases ds with
      | cons => cases hd
      | nil => cases he; simp [Op.eqFields]
  | f :: fs, [], _, _, _, _, _, hl, _, _, _, _, _ => by cases hl
  | f :: fs, z :: zs, cs, ds, j, b, hf, hl, hc, hd, he, hx, hy => by
    obtain ⟨h1, h2, h3⟩ := hf 0 f z rfl rfl
    have hf' : ∀ i g y, fs[i]? = some g → zs[i]? = some y → g.name ≠ "_" ∧ g.offset = (j + 1) + i ∧ Scal P g.type y := fun i g y hg hy => by
      have := hf (i + 1) g y (by simpa using hg) (by simpa using hy)
      exact ⟨this.1, by omega, this.2.2⟩
    have hl' : fs.length = zs.length := by simpa using hl
    cases cs with
    | nil => cases z <;> cases hc
    | cons c0 cs =>
      cases ds with
      | nil => cases z <;> cases hd
      | cons d0 ds =>
        obtain ⟨x, hx0, rx⟩ := hx 0 c0 rfl
        obtain ⟨y, hy0, ry⟩ := hy 0 d0 rfl
        have hx' : ∀ i v, cs[i]? = some v → ∃ x, xs[(j + 1) + i]? = some x ∧ Rep w h c v x := fun i v hv => by
          obtain ⟨x, q1, q2⟩ := hx (i + 1) v (by simpa using hv)
          exact ⟨x, by rw [← q1]; congr 1; omega, q2⟩
        have hy' : ∀ i v, ds[i]? = some v → ∃ x, ys[(j + 1) + i]? = some x ∧ Rep w h c v x := fun i v hv => by
          obtain ⟨x, q1, q2⟩ := hy (i + 1) v (by simpa using hv)
          exact ⟨x, by rw [← q1]; congr 1; omega, q2⟩
        have p1 := scal_part (w := w) h3 hx0
        have p2 := scal_part (w := w) h3 hy0
        have fin : ∀ (r : Bool), (Op.equalIn (d + 1) f.type x y).run P w = .ok r w → ∀ b', eqCells cs ds = some b' → kindsOk zs cs = true → kindsOk zs ds = true → b = (r && b') → (Op.eqFields (d + 1) xs ys (f :: fs)).run P w = .ok b w := by
          intro r hr b' hb' kc kd hb
          subst hb
          have ih := eqF d xs ys fs zs cs ds (j + 1) b' hf' hl' kc kd hb' hx' hy'
          simp only [Op.eqFields, h1, ne_eq, not_false_eq_true, if_true, Sem.run_bind, h2, Nat.add_zero, p1, p2, Result.andThen_ok, hr]
          simp only [Nat.add_zero] at p1 p2
          simp only [p1, p2, Result.andThen_ok, hr]
          cases r with
          | true => simpa using ih
          | false => simp
        rcases h3 with ⟨k, n, rfl, hu⟩ | ⟨s, rfl, hu⟩ | ⟨q, rfl, hu⟩
        · cases c0 with
          | int k1 n1 =>
            cases d0 with
            | int k2 n2 =>
              simp only [kindsOk, Bool.and_eq_true, decide_eq_true_eq] at hc hd
              obtain ⟨rfl, hc⟩ := hc
              obtain ⟨rfl, hd⟩ := hd
              cases rx
              cases ry
              simp only [eqCells, if_true] at he
              split at he
              · rename_i b' hb'
                cases he
                exact fin _ (run_equalIn_int w d _ _ _ _ _ hu) b' hb' hc hd rfl
              · cases he
            | _ => simp [kindsOk] at hd
          | _ => simp [kindsOk] at hc
        · cases c0 with
          | str s1 =>
            cases d0 with
            | str s2 =>
              simp only [kindsOk] at hc hd
              cases rx
              cases ry
              simp only [eqCells] at he
              split at he
              · rename_i b' hb'
                cases he
                refine fin _ (run_equalIn_string w d _ _ _ hu) b' hb' hc hd ?_
                congr 1
                simp only [ByteArray.toList_eq]
              · cases he
            | _ => simp [kindsOk] at hd
          | _ => simp [kindsOk] at hc
        · cases c0 with
          | bool s1 =>
            cases d0 with
            | bool s2 =>
              simp only [kindsOk] at hc hd
              cases rx
              cases ry
              simp only [eqCells] at he
              split at he
              · rename_i b' hb'
                cases he
                exact fin _ (run_equalIn_bool' w d _ _ _ hu) b' hb' hc hd rfl
              · cases he
            | _ => simp [kindsOk] at hd
          | _ => simp [kindsOk] at hc

def EqFlat (P : Program) (tt : TTab) (t : Nat) : Prop :=
  P.underlying t = some (.struct (P.fieldsOf t)) ∧ P.stoodInHeld t = false ∧ P.eqGuardType P.depth t = false ∧ (P.fieldsOf t).toList.length = (tt.at t).zero.length ∧
    ∀ i f z, (P.fieldsOf t).toList[i]? = some f → (tt.at t).zero[i]? = some z → f.name ≠ "_" ∧ f.offset = 0 + i ∧ Scal P f.type z

def scalB (P : Program) (ty : TypeId) : V → Bool
  | .int k _ => (match P.underlying ty with | some (.int k') => decide (k' = k) | _ => false)
  | .str _ => (match P.underlying ty with | some .string => true | _ => false)
  | .bool _ => (match P.underlying ty with | some .bool => true | _ => false)
  | _ => false

theorem scalB_spec {ty : TypeId} {z : V} (h : scalB P ty z = true) : Scal P ty z := by
  unfold scalB at h
  split at h
  · split at h
    · rename_i k n _ k' hu
      have e : k' = k := by simpa using h
      subst e
      exact .inl ⟨_, _, rfl, hu⟩
    · cases h
  · split at h
    · rename_i hu; exact .inr (.inl ⟨_, rfl, hu⟩)
    · cases h
  · split at h
    · rename_i hu; exact .inr (.inr ⟨_, rfl, hu⟩)
    · cases h
  · cases h

def goodB (P : Program) : List Field → List V → Nat → Bool
  | [], [], _ => true
  | f :: fs, z :: zs, j => decide (f.name ≠ "_") && decide (f.offset = j) && scalB P f.type z && goodB P fs zs (j + 1)
  | _, _, _ => false

theorem goodB_spec : ∀ (fs : List Field) (zs : List V) (j : Nat), goodB P fs zs j = true → fs.length = zs.length ∧ ∀ i f z, fs[i]? = some f → zs[i]? = some z → f.name ≠ "_" ∧ f.offset = j + i ∧ Scal P f.type z
  | [], [], _, _ => ⟨rfl, fun i f z h => by simp at h⟩
  | [], _ :: _, _, h => by cases h
  | _ :: _, [], _, h => by cases h
  | f :: fs, z :: zs, j, h => by
    simp only [goodB, Bool.and_eq_true, decide_eq_true_eq] at h
    obtain ⟨⟨⟨h1, h2⟩, h3⟩, h4⟩ := h
    obtain ⟨g1, g2⟩ := goodB_spec fs zs (j + 1) h4
    refine ⟨by simp [g1], fun i g y hg hy => ?_⟩
    cases i with
    | zero =>
      simp at hg hy
      subst hg; subst hy
      exact ⟨h1, h2, scalB_spec h3⟩
    | succ i =>
      obtain ⟨q1, q2, q3⟩ := g2 i g y (by simpa using hg) (by simpa using hy)
      exact ⟨q1, by omega, q3⟩

theorem EqFlat.of {t : Nat} (h1 : P.underlying t = some (.struct (P.fieldsOf t))) (h2 : P.stoodInHeld t = false) (h3 : P.eqGuardType P.depth t = false) (h4 : goodB P (P.fieldsOf t).toList (tt.at t).zero 0 = true) : EqFlat P tt t :=
  ⟨h1, h2, h3, (goodB_spec _ _ _ h4).1, (goodB_spec _ _ _ h4).2⟩

theorem eqOk_eq {i : TI} {a b : List V} (h : eqOk i a b = true) : i.eq = true := by
  unfold eqOk at h
  simp only [Bool.and_eq_true] at h
  exact h.1.1

theorem eqs_flat {t : Nat} (e : EqFlat P tt t) {cs ds : List V} {xs ys : Array Value} {b : Bool} (hk : eqOk (tt.at t) cs ds = true) (rx : RepL w h c cs xs.toList) (ry : RepL w h c ds ys.toList) (hb : eqCells cs ds = some b) :
    P.eqGuardType P.depth t = false ∧ (Op.equalIn 10000 t (.agg xs) (.agg ys)).run P w = .ok b w := by
  obtain ⟨e1, e2, e3, e4, e5⟩ := e
  refine ⟨e3, ?_⟩
  unfold eqOk at hk
  simp only [Bool.and_eq_true] at hk
  rw [run_equalIn_struct w 9999 t xs ys e1 e2]
  have get : ∀ {cs : List V} {xs : Array Value}, RepL w h c cs xs.toList → ∀ i v, cs[i]? = some v → ∃ x, xs[0 + i]? = some x ∧ Rep w h c v x := by
    intro cs xs r i v hv
    have hi := (List.getElem?_eq_some_iff.1 hv).1
    have hl : i < xs.size := by have := r.1; simp at this; omega
    refine ⟨xs[i], by simp [hl], r.2 i v _ hv (by simp [hl])⟩
  exact eqF 9998 xs ys _ _ cs ds 0 b e5 e4 hk.1.2 hk.2 hb (get rx) (get ry)
end
end Go.Yard

namespace Go.Yard
open Go.RowKit

section
variable {R : Type} {P : Program} {tt : TTab}

mutual
def Json.depth : Json → Nat
  | ⟨_, _, _, _, l⟩ => Json.depthL l + 1
def Json.depthL : List Json → Nat
  | [] => 0
  | x :: l => max x.depth (Json.depthL l)
end
mutual
def Raw.depth : Raw → Nat
  | ⟨_, _, _, _, l⟩ => Raw.depthL l + 1
def Raw.depthL : List Raw → Nat
  | [] => 0
  | x :: l => max x.depth (Raw.depthL l)
end

def Dcm.fu (x : Dcm) : Nat := x.mant.natAbs + x.exp.natAbs
def Json.fu (x : Json) : Nat := x.text.length + x.names.length + x.items.length
def Raw.fu (x : Raw) : Nat := x.text.length + x.items.length
def Raw3.fu (x : Raw3) : Nat := x.kind.natAbs + x.mant.natAbs + x.exp.natAbs + x.text.length
def Fld.fu (x : Fld) : Nat := x.name.length
def Mail.fu (x : Mail) : Nat := x.topic.length + x.data.length
def Token.fu (x : Token) : Nat := x.text.length
def Stop.fu (x : Stop) : Nat := 0
def Way.fu (x : Way) : Nat := 0
def Order.fu (x : Order) : Nat := x.header.natAbs + x.vehicle.length + x.order.natAbs + x.update.natAbs + x.nodes.length + x.edges.length
def Edge.fu (x : Edge) : Nat := 0
def Layout.fu (x : Layout) : Nat := x.nodes.natAbs + x.edges.length
def Topic.fu (x : Topic) : Nat := x.maker.length + x.serial.length + x.kind.length
def State.fu (x : State) : Nat := x.header.natAbs + x.boot.natAbs + x.vehicle.length + x.order.natAbs + x.update.natAbs + x.node.natAbs + x.seq.natAbs + x.accepted.natAbs
def Ctl.fu (x : Ctl) : Nat := x.vehicle.length + x.header.natAbs + x.order.natAbs + x.update.natAbs + x.boot.natAbs + x.seen.natAbs + x.path.length + x.seq.natAbs + x.rel.natAbs + x.pending.header.natAbs + x.pending.vehicle.length + x.pending.order.natAbs + x.pending.update.natAbs + x.pending.nodes.length + x.pending.edges.length
def Op17.fu (x : Op17) : Nat := x.kind.natAbs + x.i.natAbs + x.k.natAbs + x.by_.natAbs + x.data.length
def Raw13.fu (x : Raw13) : Nat := x.header.natAbs + x.order.natAbs + x.update.natAbs + x.seq.natAbs + x.from_.natAbs + x.released.natAbs + x.turns.length
def Ev16.fu (x : Ev16) : Nat := x.kind.natAbs + x.o.header.natAbs + x.o.order.natAbs + x.o.update.natAbs + x.o.seq.natAbs + x.o.from_.natAbs + x.o.released.natAbs + x.o.turns.length + x.data.length
def Ev18.fu (x : Ev18) : Nat := x.kind.natAbs + x.n.natAbs + x.turns.length
def Arr3.fu (x : Arr3) : Nat := x.a.natAbs + x.b.natAbs + x.c.natAbs
def Arr2.fu (x : Arr2) : Nat := x.a.natAbs + x.b.natAbs
def Dec2.fu (x : Dec2) : Nat := x.a.mant.natAbs + x.a.exp.natAbs + x.b.mant.natAbs + x.b.exp.natAbs
def Post.fu (x : Post) : Nat := x.name.length + x.home.natAbs
def Job.fu (x : Job) : Nat := x.id.natAbs + x.target.natAbs + x.state.natAbs + x.vehicle.natAbs
def Record.fu (x : Record) : Nat := x.kind.natAbs + x.nums.length + x.text.length

theorem loop_tie {D : Type} {E : Env R} {L : Nat → Option (Hint × LSpec R)} {m : Nat} {a : Code} {hint : Hint} (enc : D → St)
    (s : (Ex → St → Option R) → (D → Option R) → D → Option R) (A : (Ex → St → Option R) → Nat → D → Option R)
    (h0 : ∀ K d, A K 0 d = none)
    (hB : ∀ K rec' d, roundOf tt E L m a hint (enc d) rec' K = s K (fun d => rec' (enc d)) d)
    (hA : ∀ K n d, A K (n + 1) d = s K (A K n) d) (K : Ex → St → Option R) :
    ∀ n d, loopN (interp tt E L m a) (norm m hint) n (enc d) (fun e st => K e (trim m hint st)) = A K n d
  | 0, d => (h0 K d).symm
  | n + 1, d => by
    rw [loopN_succ, hB, hA]
    exact congrArg (fun q => s K q d) (funext fun d => loop_tie enc s A h0 hB hA K n d)

theorem loopBy_tie {D : Type} {E : Env R} {L : Nat → Option (Hint × LSpec R)} {m : Nat} {a : Code} {hint : Hint} {ps : List Pat} {hs : List HPat}
    {run : Pat.dens ps → HPat.dens hs → (Ex → St → Option R) → Option R} {other : LSpec R} {enc : D → St} {A : (Ex → St → Option R) → Nat → D → Option R}
    (ho : LsOk tt E L m a hint other)
    (tie : ∀ K n d, loopN (interp tt E L m a) (norm m hint) n (enc d) (fun e st => K e (trim m hint st)) = A K n d)
    (fuel : Pat.dens ps → HPat.dens hs → Nat) (dat : Pat.dens ps → HPat.dens hs → D)
    (henc : ∀ x y, (⟨Pat.encL ps x, HPat.encL hs y⟩ : St) = enc (dat x y))
    (hrun : ∀ x y K, run x y K = A K (fuel x y) (dat x y)) : LsOk tt E L m a hint (loopBy ps hs run other) :=
  loopBy_ok ho fun x y K => ⟨fuel x y, by rw [henc, hrun]; exact tie K _ _⟩

theorem specBy_at {g : Nat} {ps : List Pat} {hs : List HPat} {run : Nat → Pat.dens ps → HPat.dens hs → (V → Heap → Option R) → Option R} {other : Spec R}
    (fuel : Pat.dens ps → HPat.dens hs → Nat) (ho : Spec.Ok P g other)
    (h : ∀ n, Spec.Ok P g (specBy ps hs (run n) specNo)) : Spec.Ok P g (specBy ps hs (fun x y k => run (fuel x y) x y k) other) := by
  intro vs hp k r hk
  unfold specBy at hk
  split at hk
  · rename_i x y h1 h2
    refine h (fuel x y) vs hp k r ?_
    unfold specBy
    rw [h1, h2]
    exact hk
  · exact ho _ _ _ _ hk

theorem specBy_fuel {g : Nat} {ps : List Pat} {hs : List HPat} {run : Nat → Pat.dens ps → HPat.dens hs → (V → Heap → Option R) → Option R}
    (h0 : ∀ x y k, run 0 x y k = none)
    (hs' : ∀ n, Spec.Ok P g (specBy ps hs (run n) specNo) → Spec.Ok P g (specBy ps hs (run (n + 1)) specNo)) : ∀ n, Spec.Ok P g (specBy ps hs (run n) specNo)
  | 0 => by
    intro vs hp k r hk
    unfold specBy at hk
    split at hk
    · rw [h0] at hk; cases hk
    · cases hk
  | n + 1 => hs' n (specBy_fuel h0 hs' n)

theorem specBy_run {g : Nat} {ps : List Pat} {hs : List HPat} {run run' : Pat.dens ps → HPat.dens hs → (V → Heap → Option R) → Option R} {other : Spec R}
    (h : Spec.Ok P g (specBy ps hs run other)) (e : run' = run) : Spec.Ok P g (specBy ps hs run' other) := e ▸ h
end
abbrev bytesN (s : Str) : List Int := bytesI s
end Go.Yard

