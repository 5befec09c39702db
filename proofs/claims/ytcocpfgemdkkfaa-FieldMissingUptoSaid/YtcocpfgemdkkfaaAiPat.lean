/-
  The abstract interpreter, part 31: shapes of values, frames and heaps; specs and loops by them. Own work.
-/
import Derived.Test.YtcocpfgemdkkfaaAiInterp
namespace Go.Yard
open Go.RowKit

/-- The shape of a cell: what is fixed stands in it, what is not is asked. -/
inductive Leaf where
  | undef | nilptr | nilsl | nilfunc | nilmap | niliface
  | int (k : IntKind) | bool | str
  | ptr (i o : Nat)
  | sl (T : Ty) | slo (T : Ty) (i : Nat)
  | row (i : Nat)
  | fn (f : Nat)
  deriving DecidableEq

def Leaf.den : Leaf → Type
  | .int _ => Int
  | .bool => Bool
  | .str => Str
  | .sl T => List T.den
  | .slo T _ => List T.den
  | .row _ => Nat
  | _ => Unit

def Leaf.enc : (p : Leaf) → p.den → V
  | .undef, _ => .undef
  | .nilptr, _ => .nilptr
  | .nilsl, _ => .nilsl
  | .nilfunc, _ => .nilfunc
  | .nilmap, _ => .nilmap
  | .niliface, _ => .niliface
  | .int k, (n : Int) => .int k n
  | .bool, (b : Bool) => .bool b
  | .str, (s : Str) => .str s
  | .ptr i o, _ => .ptr i o
  | .sl T, (l : List T.den) => .sl T l .no
  | .slo T i, (l : List T.den) => .sl T l (.own i)
  | .row i, (n : Nat) => .row i n
  | .fn f, _ => .func f [] []

def decIx (k : IntKind) : V → Option Int | .int k' n => if k' = k then some n else none | _ => none
def decBx : V → Option Bool | .bool b => some b | _ => none
def decSx : V → Option Str | .str s => some s | _ => none
def decLx (T : Ty) : V → Option (List T.den) | .sl T' l .no => if h : T' = T then some (h ▸ l) else none | _ => none
def decOx (T : Ty) (i : Nat) : V → Option (List T.den) | .sl T' l (.own j) => if h : T' = T then (if j = i then some (h ▸ l) else none) else none | _ => none
def decRx (i : Nat) : V → Option Nat | .row j n => if j = i then some n else none | _ => none
def decPx (i o : Nat) : V → Option Unit | .ptr j q => if j = i ∧ q = o then some () else none | _ => none
def decFx (f : Nat) : V → Option Unit | .func g [] [] => if g = f then some () else none | _ => none
def decUx : V → Option Unit | .undef => some () | _ => none
def decNp : V → Option Unit | .nilptr => some () | _ => none
def decNs : V → Option Unit | .nilsl => some () | _ => none
def decNf : V → Option Unit | .nilfunc => some () | _ => none
def decNm : V → Option Unit | .nilmap => some () | _ => none
def decNi : V → Option Unit | .niliface => some () | _ => none

theorem decIx_eq {k : IntKind} {v : V} {x : Int} (h : decIx k v = some x) : v = .int k x := by
  unfold decIx at h
  split at h
  · split at h
    · rename_i e; subst e; cases h; rfl
    · cases h
  · cases h
theorem decBx_eq {v : V} {x : Bool} (h : decBx v = some x) : v = .bool x := by unfold decBx at h; split at h <;> first | (cases h; rfl) | cases h
theorem decSx_eq {v : V} {x : Str} (h : decSx v = some x) : v = .str x := by unfold decSx at h; split at h <;> first | (cases h; rfl) | cases h
theorem decLx_eq {T : Ty} {v : V} {x : List T.den} (h : decLx T v = some x) : v = .sl T x .no := by
  unfold decLx at h
  split at h
  · split at h
    · rename_i e; subst e; cases h; rfl
    · cases h
  · cases h
theorem decOx_eq {T : Ty} {i : Nat} {v : V} {x : List T.den} (h : decOx T i v = some x) : v = .sl T x (.own i) := by
  unfold decOx at h
  split at h
  · split at h
    · rename_i e
      subst e
      split at h
      · rename_i e; subst e; cases h; rfl
      · cases h
    · cases h
  · cases h
theorem decRx_eq {i : Nat} {v : V} {x : Nat} (h : decRx i v = some x) : v = .row i x := by
  unfold decRx at h
  split at h
  · split at h
    · rename_i e; subst e; cases h; rfl
    · cases h
  · cases h
theorem decPx_eq {i o : Nat} {v : V} {x : Unit} (h : decPx i o v = some x) : v = .ptr i o := by
  unfold decPx at h
  split at h
  · split at h
    · rename_i e; obtain ⟨rfl, rfl⟩ := e; rfl
    · cases h
  · cases h
theorem decFx_eq {f : Nat} {v : V} {x : Unit} (h : decFx f v = some x) : v = .func f [] [] := by
  unfold decFx at h
  split at h
  · split at h
    · rename_i e; subst e; rfl
    · cases h
  · cases h
theorem decUx_eq {v : V} {x : Unit} (h : decUx v = some x) : v = .undef := by unfold decUx at h; split at h <;> first | rfl | cases h
theorem decNp_eq {v : V} {x : Unit} (h : decNp v = some x) : v = .nilptr := by unfold decNp at h; split at h <;> first | rfl | cases h
theorem decNs_eq {v : V} {x : Unit} (h : decNs v = some x) : v = .nilsl := by unfold decNs at h; split at h <;> first | rfl | cases h
theorem decNf_eq {v : V} {x : Unit} (h : decNf v = some x) : v = .nilfunc := by unfold decNf at h; split at h <;> first | rfl | cases h
theorem decNm_eq {v : V} {x : Unit} (h : decNm v = some x) : v = .nilmap := by unfold decNm at h; split at h <;> first | rfl | cases h
theorem decNi_eq {v : V} {x : Unit} (h : decNi v = some x) : v = .niliface := by unfold decNi at h; split at h <;> first | rfl | cases h

def Leaf.dec : (p : Leaf) → V → Option p.den
  | .undef => decUx
  | .nilptr => decNp
  | .nilsl => decNs
  | .nilfunc => decNf
  | .nilmap => decNm
  | .niliface => decNi
  | .int k => decIx k
  | .bool => decBx
  | .str => decSx
  | .ptr i o => decPx i o
  | .sl T => decLx T
  | .slo T i => decOx T i
  | .row i => decRx i
  | .fn f => decFx f

theorem Leaf.dec_eq (p : Leaf) {v : V} {x : p.den} (h : p.dec v = some x) : v = p.enc x := by
  cases p
  · exact decUx_eq h
  · exact decNp_eq h
  · exact decNs_eq h
  · exact decNf_eq h
  · exact decNm_eq h
  · exact decNi_eq h
  · exact decIx_eq h
  · exact decBx_eq h
  · exact decSx_eq h
  · exact decPx_eq h
  · exact decLx_eq h
  · exact decOx_eq h
  · exact decRx_eq h
  · exact decFx_eq h

def Leaf.dens : List Leaf → Type
  | [] => Unit
  | p :: ps => p.den × Leaf.dens ps
def Leaf.encL : (ps : List Leaf) → Leaf.dens ps → List V
  | [], _ => []
  | p :: ps, (x : p.den × Leaf.dens ps) => p.enc x.1 :: Leaf.encL ps x.2
def both {α β : Type} : Option α → Option β → Option (α × β)
  | some x, some y => some (x, y)
  | _, _ => none
theorem both_eq {α β : Type} {a : Option α} {b : Option β} {z : α × β} (h : both a b = some z) : a = some z.1 ∧ b = some z.2 := by
  cases a <;> cases b <;> cases h
  exact ⟨rfl, rfl⟩
def Leaf.decL : (ps : List Leaf) → List V → Option (Leaf.dens ps)
  | [], [] => some ()
  | [], _ :: _ => none
  | _ :: _, [] => none
  | p :: ps, v :: vs => both (p.dec v) (Leaf.decL ps vs)
theorem Leaf.decL_eq : ∀ (ps : List Leaf) {vs : List V} {x : Leaf.dens ps}, Leaf.decL ps vs = some x → vs = Leaf.encL ps x
  | [], [], _, _ => rfl
  | [], _ :: _, _, h => by cases h
  | _ :: _, [], _, h => by cases h
  | p :: ps, v :: vs, x, h => by
    obtain ⟨h1, h2⟩ := both_eq (a := p.dec v) (b := Leaf.decL ps vs) h
    show v :: vs = p.enc x.1 :: Leaf.encL ps x.2
    rw [← Leaf.dec_eq p h1, ← Leaf.decL_eq ps h2]

/-- The shape of a value. -/
inductive Pat where
  | leaf (l : Leaf)
  | agg (ps : List Leaf)
  | func (f : Nat) (a b : List Leaf)

def Pat.den : Pat → Type
  | .leaf l => l.den
  | .agg ps => Leaf.dens ps
  | .func _ a b => Leaf.dens a × Leaf.dens b
def Pat.enc : (p : Pat) → p.den → V
  | .leaf l, x => l.enc x
  | .agg ps, x => .agg (Leaf.encL ps x)
  | .func f a b, (x : Leaf.dens a × Leaf.dens b) => .func f (Leaf.encL a x.1) (Leaf.encL b x.2)
def decAx (ps : List Leaf) : V → Option (Leaf.dens ps) | .agg cs => Leaf.decL ps cs | _ => none
def decFnx (f : Nat) (a b : List Leaf) : V → Option (Leaf.dens a × Leaf.dens b) | .func g x y => if g = f then both (Leaf.decL a x) (Leaf.decL b y) else none | _ => none
def Pat.dec : (p : Pat) → V → Option p.den
  | .leaf l => l.dec
  | .agg ps => decAx ps
  | .func f a b => decFnx f a b
theorem Pat.dec_eq (p : Pat) {v : V} {x : p.den} (h : p.dec v = some x) : v = p.enc x := by
  cases p with
  | leaf l => exact Leaf.dec_eq l h
  | agg ps =>
    replace h : decAx ps v = some x := h
    unfold decAx at h
    split at h
    · rename_i cs
      show V.agg cs = .agg (Leaf.encL ps x)
      rw [← Leaf.decL_eq ps h]
    · cases h
  | func f a b =>
    replace h : decFnx f a b v = some x := h
    unfold decFnx at h
    split at h
    · split at h
      · rename_i e
        subst e
        obtain ⟨h1, h2⟩ := both_eq h
        rename_i g p q
        show V.func g p q = .func g (Leaf.encL a x.1) (Leaf.encL b x.2)
        rw [← Leaf.decL_eq a h1, ← Leaf.decL_eq b h2]
      · cases h
    · cases h
def Pat.dens : List Pat → Type
  | [] => Unit
  | p :: ps => p.den × Pat.dens ps
def Pat.encL : (ps : List Pat) → Pat.dens ps → List V
  | [], _ => []
  | p :: ps, (x : p.den × Pat.dens ps) => p.enc x.1 :: Pat.encL ps x.2
def Pat.decL : (ps : List Pat) → List V → Option (Pat.dens ps)
  | [], [] => some ()
  | [], _ :: _ => none
  | _ :: _, [] => none
  | p :: ps, v :: vs => both (p.dec v) (Pat.decL ps vs)
theorem Pat.decL_eq : ∀ (ps : List Pat) {vs : List V} {x : Pat.dens ps}, Pat.decL ps vs = some x → vs = Pat.encL ps x
  | [], [], _, _ => rfl
  | [], _ :: _, _, h => by cases h
  | _ :: _, [], _, h => by cases h
  | p :: ps, v :: vs, x, h => by
    obtain ⟨h1, h2⟩ := both_eq (a := p.dec v) (b := Pat.decL ps vs) h
    show v :: vs = p.enc x.1 :: Pat.encL ps x.2
    rw [← Pat.dec_eq p h1, ← Pat.decL_eq ps h2]

/-- The shape of an object. -/
inductive HPat where
  | free | dead | tok
  | cells (ps : List Leaf)
  | row (T : Ty)

def HPat.den : HPat → Type
  | .cells ps => Leaf.dens ps
  | .row T => List T.den
  | _ => Unit
def HPat.enc : (p : HPat) → p.den → AObj
  | .free, _ => .free
  | .dead, _ => .dead
  | .tok, _ => .tok
  | .cells ps, x => .cells (Leaf.encL ps x)
  | .row T, x => .row T x
def decCx (ps : List Leaf) : AObj → Option (Leaf.dens ps) | .cells cs => Leaf.decL ps cs | _ => none
def decWx (T : Ty) : AObj → Option (List T.den) | .row T' l => if h : T' = T then some (h ▸ l) else none | _ => none
def decHf : AObj → Option Unit | .free => some () | _ => none
def decHd : AObj → Option Unit | .dead => some () | _ => none
def decHt : AObj → Option Unit | .tok => some () | _ => none
def HPat.dec : (p : HPat) → AObj → Option p.den
  | .free => decHf
  | .dead => decHd
  | .tok => decHt
  | .cells ps => decCx ps
  | .row T => decWx T
theorem HPat.dec_eq (p : HPat) {o : AObj} {x : p.den} (h : p.dec o = some x) : o = p.enc x := by
  cases p with
  | free => replace h : decHf o = some x := h; unfold decHf at h; split at h <;> first | rfl | cases h
  | dead => replace h : decHd o = some x := h; unfold decHd at h; split at h <;> first | rfl | cases h
  | tok => replace h : decHt o = some x := h; unfold decHt at h; split at h <;> first | rfl | cases h
  | cells ps =>
    replace h : decCx ps o = some x := h
    unfold decCx at h
    split at h
    · rename_i cs
      show AObj.cells cs = .cells (Leaf.encL ps x)
      rw [← Leaf.decL_eq ps h]
    · cases h
  | row T =>
    replace h : decWx T o = some x := h
    unfold decWx at h
    split at h
    · split at h
      · rename_i e; subst e; cases h; rfl
      · cases h
    · cases h
def HPat.dens : List HPat → Type
  | [] => Unit
  | p :: ps => p.den × HPat.dens ps
def HPat.encL : (ps : List HPat) → HPat.dens ps → Heap
  | [], _ => []
  | p :: ps, (x : p.den × HPat.dens ps) => p.enc x.1 :: HPat.encL ps x.2
def HPat.decL : (ps : List HPat) → List AObj → Option (HPat.dens ps)
  | [], [] => some ()
  | [], _ :: _ => none
  | _ :: _, [] => none
  | p :: ps, v :: vs => both (p.dec v) (HPat.decL ps vs)
theorem HPat.decL_eq : ∀ (ps : List HPat) {vs : List AObj} {x : HPat.dens ps}, HPat.decL ps vs = some x → vs = HPat.encL ps x
  | [], [], _, _ => rfl
  | [], _ :: _, _, h => by cases h
  | _ :: _, [], _, h => by cases h
  | p :: ps, v :: vs, x, h => by
    obtain ⟨h1, h2⟩ := both_eq (a := p.dec v) (b := HPat.decL ps vs) h
    show v :: vs = p.enc x.1 :: HPat.encL ps x.2
    rw [← HPat.dec_eq p h1, ← HPat.decL_eq ps h2]

theorem HPat.encL_len : ∀ (ps : List HPat) (x : HPat.dens ps), (HPat.encL ps x).length = ps.length
  | [], _ => rfl
  | p :: ps, x => by
    show (p.enc x.1 :: HPat.encL ps x.2).length = _
    simp [HPat.encL_len ps]

section
variable {R : Type} {P : Program} {tt : TTab}

/-- A spec by shapes; behind it another. -/
def specBy (ps : List Pat) (hs : List HPat) (run : Pat.dens ps → HPat.dens hs → (V → Heap → Option R) → Option R) (other : Spec R) : Spec R := fun args h k =>
  match Pat.decL ps args, HPat.decL hs h with
  | some x, some y => run x y k
  | _, _ => other args h k

def specNo : Spec R := fun _ _ _ => none

theorem specNo_ok (g : Nat) : Spec.Ok P g (specNo : Spec R) := by intro vs h k r hk; cases hk

theorem specBy_ok {g : Nat} {ps : List Pat} {hs : List HPat} {run : Pat.dens ps → HPat.dens hs → (V → Heap → Option R) → Option R} {other own : Spec R} (ho : Spec.Ok P g other) (hw : Spec.OkAt P g hs.length own)
    (hr : ∀ x y k, own (Pat.encL ps x) (HPat.encL hs y) k = run x y k) : Spec.Ok P g (specBy ps hs run other) := by
  intro vs h k r hk
  unfold specBy at hk
  split at hk
  · rename_i x y h1 h2
    rw [Pat.decL_eq ps h1, HPat.decL_eq hs h2]
    rw [← hr] at hk
    exact hw _ _ _ _ (HPat.encL_len hs y) hk
  · exact ho _ _ _ _ hk

/-- A loop by shapes. -/
def loopBy (ps : List Pat) (hs : List HPat) (run : Pat.dens ps → HPat.dens hs → (Ex → St → Option R) → Option R) (other : LSpec R) : LSpec R := fun st K =>
  match Pat.decL ps st.fr, HPat.decL hs st.hp with
  | some x, some y => run x y K
  | _, _ => other st K

def loopNo : LSpec R := fun _ _ => none

/-- What a loop's table must say of one spec. -/
def LsOk (tt : TTab) (E : Env R) (L : Nat → Option (Hint × LSpec R)) (m : Nat) (a : Code) (hint : Hint) (ls : LSpec R) : Prop :=
  ∀ st (K : Ex → St → Option R) r, ls st K = some r → ∃ n, loopN (interp tt E L m a) (norm m hint) n st (fun e st => K e (trim m hint st)) = some r

theorem loopNo_ok {E : Env R} {L : Nat → Option (Hint × LSpec R)} {m : Nat} {a : Code} {hint : Hint} : LsOk tt E L m a hint loopNo := by intro st K r hk; cases hk

theorem loopBy_ok {E : Env R} {L : Nat → Option (Hint × LSpec R)} {m : Nat} {a : Code} {hint : Hint} {ps : List Pat} {hs : List HPat} {run : Pat.dens ps → HPat.dens hs → (Ex → St → Option R) → Option R} {other : LSpec R} (ho : LsOk tt E L m a hint other)
    (hr : ∀ x y K, ∃ n, loopN (interp tt E L m a) (norm m hint) n ⟨Pat.encL ps x, HPat.encL hs y⟩ (fun e st => K e (trim m hint st)) = run x y K) : LsOk tt E L m a hint (loopBy ps hs run other) := by
  intro st K r hk
  obtain ⟨fr, hp⟩ := st
  unfold loopBy at hk
  simp only at hk
  split at hk
  · rename_i x y h1 h2
    rw [Pat.decL_eq ps h1, HPat.decL_eq hs h2]
    obtain ⟨n, hn⟩ := hr x y K
    exact ⟨n, by rw [hn]; exact hk⟩
  · exact ho _ _ _ hk

def codeOf (f : Func) : Code := f.body.getD .skip

theorem loops_ok {E : Env R} {L : Nat → Option (Hint × LSpec R)} {m : Nat} {l : List Code} (n : Nat) (hn : l.length = n) (h : ∀ i, i < n → LoopOk tt E L m (l.getD i .skip)) : ∀ a ∈ l, LoopOk tt E L m a := by
  intro a ha
  obtain ⟨i, hi, rfl⟩ := List.mem_iff_getElem.1 ha
  have := h i (by omega)
  simpa [List.getD, List.getElem?_eq_getElem hi] using this

theorem loopOk_none {E : Env R} {L : Nat → Option (Hint × LSpec R)} {m : Nat} {a : Code} (h : L (keyOf a) = none) : LoopOk tt E L m a := by
  intro hint ls hl
  rw [h] at hl
  cases hl

theorem loopOk_some {E : Env R} {L : Nat → Option (Hint × LSpec R)} {m : Nat} {a : Code} {hint : Hint} {ls : LSpec R} (h : L (keyOf a) = some (hint, ls)) (hs : LsOk tt E L m a hint ls) : LoopOk tt E L m a := by
  intro hint' ls' hl
  rw [h] at hl
  cases hl
  exact hs

/-- One round, whatever comes behind it. -/
noncomputable def roundOf (tt : TTab) (E : Env R) (L : Nat → Option (Hint × LSpec R)) (m : Nat) (a : Code) (hint : Hint) (st : St) (rec' : St → Option R) (K : Ex → St → Option R) : Option R :=
  interp tt E L m a st fun e st' => match e with | .normal => rec' (norm m hint st') | e => K e (trim m hint st')

theorem loopN_succ {E : Env R} {L : Nat → Option (Hint × LSpec R)} {m : Nat} {a : Code} {hint : Hint} {n : Nat} {st : St} {K : Ex → St → Option R} :
    loopN (interp tt E L m a) (norm m hint) (n + 1) st (fun e st => K e (trim m hint st)) = roundOf tt E L m a hint st (fun st => loopN (interp tt E L m a) (norm m hint) n st (fun e st => K e (trim m hint st))) K := by
  unfold roundOf
  simp only [loopN]
  congr 1
end
end Go.Yard
