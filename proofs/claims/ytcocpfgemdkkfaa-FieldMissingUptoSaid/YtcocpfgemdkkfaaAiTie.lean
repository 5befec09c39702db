/-
  The abstract interpreter, part 34: loops and recursions by named data, so that only the kernel looks into them. Own work.
-/
import Derived.Test.YtcocpfgemdkkfaaAiEq
namespace Go.Yard
open Go.RowKit

section
variable {R : Type} {P : Program} {tt : TTab}

/-! ### how deep values are -/
mutual
def Json.depth : Json → Nat
  | ⟨_, _, _, _, l⟩ => Json.depthL l + 1
def Json.depthL : List Json → Nat
  | [] => 0
  | x :: l => max x.depth (Json.depthL l)
end
mutual
def Raw.depth : Raw → Nat
  | ⟨_, _, _, _, l⟩ => Raw.depthL l + 1
def Raw.depthL : List Raw → Nat
  | [] => 0
  | x :: l => max x.depth (Raw.depthL l)
end

/-! ### modes -/
theorem mode_at (rs : List Ty) (t : Nat) : ∃ b, (tt.mode rs).at t = { tt.at t with rowy := b } := by
  unfold TTab.mode TTab.at
  simp only [List.getD, List.getElem?_map]
  cases tt[t]? with
  | none => exact ⟨false, rfl⟩
  | some i => exact ⟨_, rfl⟩

theorem mode_ok (rs : List Ty) (t : Nat) : (tt.mode rs).ok t = tt.ok t := by
  obtain ⟨b, h⟩ := mode_at (tt := tt) rs t
  unfold TTab.ok
  rw [h]

theorem TOK.mode (T : TOK P tt) (rs : List Ty) : TOK P (tt.mode rs) where
  und := fun t => by obtain ⟨b, h⟩ := mode_at (tt := tt) rs t; rw [h]; exact T.und t
  info := fun t ht => by
    rw [mode_ok] at ht
    obtain ⟨b, h⟩ := mode_at (tt := tt) rs t
    rw [h]
    exact T.info t ht
  eqs := fun t w h c cs ds xs ys b hk => by
    obtain ⟨b', h'⟩ := mode_at (tt := tt) rs t
    rw [h'] at hk
    exact T.eqs t w h c cs ds xs ys b hk

/-- A loop whose states are named by data. -/
theorem loop_tie {D : Type} {E : Env R} {L : Nat → Option (Hint × LSpec R)} {m : Nat} {a : Code} {hint : Hint} (enc : D → St)
    (s : (Ex → St → Option R) → (D → Option R) → D → Option R) (A : (Ex → St → Option R) → Nat → D → Option R)
    (h0 : ∀ K d, A K 0 d = none)
    (hB : ∀ K rec' d, roundOf tt E L m a hint (enc d) rec' K = s K (fun d => rec' (enc d)) d)
    (hA : ∀ K n d, A K (n + 1) d = s K (A K n) d) (K : Ex → St → Option R) :
    ∀ n d, loopN (interp tt E L m a) (norm m hint) n (enc d) (fun e st => K e (trim m hint st)) = A K n d
  | 0, d => (h0 K d).symm
  | n + 1, d => by
    rw [loopN_succ, hB, hA]
    exact congrArg (fun q => s K q d) (funext fun d => loop_tie enc s A h0 hB hA K n d)

theorem loopBy_tie {D : Type} {E : Env R} {L : Nat → Option (Hint × LSpec R)} {m : Nat} {a : Code} {hint : Hint} {ps : List Pat} {hs : List HPat}
    {run : Pat.dens ps → HPat.dens hs → (Ex → St → Option R) → Option R} {other : LSpec R} {enc : D → St} {A : (Ex → St → Option R) → Nat → D → Option R}
    (ho : LsOk tt E L m a hint other)
    (tie : ∀ K n d, loopN (interp tt E L m a) (norm m hint) n (enc d) (fun e st => K e (trim m hint st)) = A K n d)
    (fuel : Pat.dens ps → HPat.dens hs → Nat) (dat : Pat.dens ps → HPat.dens hs → D)
    (henc : ∀ x y, (⟨Pat.encL ps x, HPat.encL hs y⟩ : St) = enc (dat x y))
    (hrun : ∀ x y K, run x y K = A K (fuel x y) (dat x y)) : LsOk tt E L m a hint (loopBy ps hs run other) :=
  loopBy_ok ho fun x y K => ⟨fuel x y, by rw [henc, hrun]; exact tie K _ _⟩

/-- A spec by shapes that has fuel. -/
theorem specBy_at {g : Nat} {ps : List Pat} {hs : List HPat} {run : Nat → Pat.dens ps → HPat.dens hs → (V → Heap → Option R) → Option R} {other : Spec R}
    (fuel : Pat.dens ps → HPat.dens hs → Nat) (ho : Spec.Ok P g other)
    (h : ∀ n, Spec.Ok P g (specBy ps hs (run n) specNo)) : Spec.Ok P g (specBy ps hs (fun x y k => run (fuel x y) x y k) other) := by
  intro vs hp k r hk
  unfold specBy at hk
  split at hk
  · rename_i x y h1 h2
    refine h (fuel x y) vs hp k r ?_
    unfold specBy
    rw [h1, h2]
    exact hk
  · exact ho _ _ _ _ hk

/-- Recursion, by fuel. -/
theorem specBy_fuel {g : Nat} {ps : List Pat} {hs : List HPat} {run : Nat → Pat.dens ps → HPat.dens hs → (V → Heap → Option R) → Option R}
    (h0 : ∀ x y k, run 0 x y k = none)
    (hs' : ∀ n, Spec.Ok P g (specBy ps hs (run n) specNo) → Spec.Ok P g (specBy ps hs (run (n + 1)) specNo)) : ∀ n, Spec.Ok P g (specBy ps hs (run n) specNo)
  | 0 => by
    intro vs hp k r hk
    unfold specBy at hk
    split at hk
    · rw [h0] at hk; cases hk
    · cases hk
  | n + 1 => hs' n (specBy_fuel h0 hs' n)

theorem specBy_run {g : Nat} {ps : List Pat} {hs : List HPat} {run run' : Pat.dens ps → HPat.dens hs → (V → Heap → Option R) → Option R} {other : Spec R}
    (h : Spec.Ok P g (specBy ps hs run other)) (e : run' = run) : Spec.Ok P g (specBy ps hs run' other) := e ▸ h
end
end Go.Yard
