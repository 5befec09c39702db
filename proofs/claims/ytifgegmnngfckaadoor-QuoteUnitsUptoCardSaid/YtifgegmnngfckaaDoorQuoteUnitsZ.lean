/-
  QuoteUnits: for every input whose bulk is at most 1048576 the law returns true, and each argument reads behind the call as it read before; part 9 of 9 of the proof: an interpreter of the model's code over typed data, proved sound; the functions that the law reaches, printed as Lean functions and tied; the plain law. Own texts laid one behind the other.
-/
import Derived.Test.YtifgegmnngfckaaDoorQuoteUnitsB8
set_option linter.unusedSimpArgs false
set_option linter.unnecessarySimpa false
set_option linter.unusedVariables false
set_option linter.unusedSectionVars false
/-
  Functions of the program as pure Lean functions, and the ties; printed by wip/tools/emit.py.
-/
set_option maxRecDepth 100000
set_option linter.unusedVariables false
namespace Go.Proofs.YtifgegmnngfckaaDoor
open Go Go.Yard

/-! ### humpyard/humpyardref02.four -/
abbrev ref02_four_ty (R : Type) : Type := Str → Int → (Int → Option R) → Option R
abbrev ref02_four_p : List Pat := [.leaf (.str), .leaf (.int .i64)]
abbrev ref02_four_q : List HPat := []
noncomputable def ref02_four_rr {R : Type} (fn : ref02_four_ty R) : Pat.dens ref02_four_p → HPat.dens ref02_four_q → (V → Heap → Option R) → Option R := fun x y k => fn x.1 x.2.1 (fun q0 => k (.int .i64 q0) [])
abbrev ref02_four_5_0_ty (R : Type) : Type := Nat → Str → Int → Int → Int → (Int → Option R) → (Int → Int → Option R) → Option R
noncomputable def ref02_four_E (R : Type) : Env R := fun i => match i with
  | _ => none
theorem ref02_four_EOk (R : Type) : EOk Tryd.prog (ref02_four_E R) := by
  intro i b sp h
  unfold ref02_four_E at h
  split at h
  · cases h

noncomputable def ref02_four_5_0_B {R : Type} (rec' : Str → Int → Int → Int → Option R) (x3 : Str) (x4 : Int) (x5 : Int) (x6 : Int) (e0 : Int → Option R) (e1 : Int → Int → Option R) : Option R :=
  bif (decide (x6 < (IntKind.i64.wrap (x4 + 4)))) then (chk (decide ((0 : Int) ≤ x6) && decide (x6 < x3.length)) (let j12 := fun (z7 : Bool) => bif z7 then (rec' x3 x4 (IntKind.i64.wrap ((IntKind.i64.wrap (16 * x5)) + (IntKind.i64.wrap (IntKind.u8.wrap (((x3.getD x6.toNat 0).toNat : Int) - 48))))) (IntKind.i64.wrap (x6 + 1))) else (bif (decide (((x3.getD x6.toNat 0).toNat : Int) ≥ (97 : Int))) then (bif (decide (((x3.getD x6.toNat 0).toNat : Int) ≤ (102 : Int))) then (rec' x3 x4 (IntKind.i64.wrap ((IntKind.i64.wrap (16 * x5)) + (IntKind.i64.wrap ((IntKind.i64.wrap (IntKind.u8.wrap (((x3.getD x6.toNat 0).toNat : Int) - 97))) + 10)))) (IntKind.i64.wrap (x6 + 1))) else (bif (decide (((x3.getD x6.toNat 0).toNat : Int) ≥ (65 : Int))) then (bif (decide (((x3.getD x6.toNat 0).toNat : Int) ≤ (70 : Int))) then (rec' x3 x4 (IntKind.i64.wrap ((IntKind.i64.wrap (16 * x5)) + (IntKind.i64.wrap ((IntKind.i64.wrap (IntKind.u8.wrap (((x3.getD x6.toNat 0).toNat : Int) - 65))) + 10)))) (IntKind.i64.wrap (x6 + 1))) else (e1 (-1) x5)) else (e1 (-1) x5))) else (bif (decide (((x3.getD x6.toNat 0).toNat : Int) ≥ (65 : Int))) then (bif (decide (((x3.getD x6.toNat 0).toNat : Int) ≤ (70 : Int))) then (rec' x3 x4 (IntKind.i64.wrap ((IntKind.i64.wrap (16 * x5)) + (IntKind.i64.wrap ((IntKind.i64.wrap (IntKind.u8.wrap (((x3.getD x6.toNat 0).toNat : Int) - 65))) + 10)))) (IntKind.i64.wrap (x6 + 1))) else (e1 (-1) x5)) else (e1 (-1) x5))); bif (decide (((x3.getD x6.toNat 0).toNat : Int) ≥ (48 : Int))) then (j12 (decide (((x3.getD x6.toNat 0).toNat : Int) ≤ (57 : Int)))) else (j12 false))) else (e0 x5)
noncomputable def ref02_four_5_0_L {R : Type} : ref02_four_5_0_ty R
  | 0, _, _, _, _, _, _ => none
  | n + 1, x0', x1', x2', x3', e0, e1 => ref02_four_5_0_B (fun x0' x1' x2' x3' => ref02_four_5_0_L n x0' x1' x2' x3' e0 e1) x0' x1' x2' x3' e0 e1
noncomputable def ref02_four_5_0_h : Hint := { live := [0, 1, 5, 6], own := [], rows := [], cells := [], drop := [], out := [4, 5] }
abbrev ref02_four_5_0_D : Type := Str × Int × Int × Int
noncomputable def ref02_four_5_0_enc : ref02_four_5_0_D → St := fun d => ⟨[.str d.1, .int .i64 d.2.1, .undef, .undef, .undef, .int .i64 d.2.2.1, .int .i64 d.2.2.2, .undef, .undef, .undef, .undef, .undef, .undef, .undef, .undef, .undef, .undef, .undef, .undef, .undef, .undef, .undef, .undef, .undef, .undef, .undef, .undef, .undef, .undef, .undef, .undef, .undef, .undef, .undef, .undef, .undef, .undef, .undef, .undef, .undef, .undef, .undef, .undef, .undef, .undef, .undef, .undef, .undef, .undef, .undef, .undef, .undef, .undef, .undef, .undef, .undef, .undef, .undef, .undef, .undef, .undef], []⟩
noncomputable def ref02_four_5_0_x0 {R : Type} (K : Ex → St → Option R) (q0 : Int) : Option R := K (.exit 0) ⟨[.undef, .undef, .undef, .undef, .undef, .int .i64 q0, .undef, .undef, .undef, .undef, .undef, .undef, .undef, .undef, .undef, .undef, .undef, .undef, .undef, .undef, .undef, .undef, .undef, .undef, .undef, .undef, .undef, .undef, .undef, .undef, .undef, .undef, .undef, .undef, .undef, .undef, .undef, .undef, .undef, .undef, .undef, .undef, .undef, .undef, .undef, .undef, .undef, .undef, .undef, .undef, .undef, .undef, .undef, .undef, .undef, .undef, .undef, .undef, .undef, .undef, .undef], []⟩
noncomputable def ref02_four_5_0_x1 {R : Type} (K : Ex → St → Option R) (q0 : Int) (q1 : Int) : Option R := K (.ret) ⟨[.undef, .undef, .undef, .undef, .int .i64 q0, .int .i64 q1, .undef, .undef, .undef, .undef, .undef, .undef, .undef, .undef, .undef, .undef, .undef, .undef, .undef, .undef, .undef, .undef, .undef, .undef, .undef, .undef, .undef, .undef, .undef, .undef, .undef, .undef, .undef, .undef, .undef, .undef, .undef, .undef, .undef, .undef, .undef, .undef, .undef, .undef, .undef, .undef, .undef, .undef, .undef, .undef, .undef, .undef, .undef, .undef, .undef, .undef, .undef, .undef, .undef, .undef, .undef], []⟩
noncomputable def ref02_four_5_0_s {R : Type} (K : Ex → St → Option R) (rc : ref02_four_5_0_D → Option R) (d : ref02_four_5_0_D) : Option R := ref02_four_5_0_B (fun z0 z1 z2 z3 => rc (z0, z1, z2, z3)) d.1 d.2.1 d.2.2.1 d.2.2.2 (ref02_four_5_0_x0 K) (ref02_four_5_0_x1 K)
noncomputable def ref02_four_5_0_A {R : Type} (K : Ex → St → Option R) (n : Nat) (d : ref02_four_5_0_D) : Option R := ref02_four_5_0_L n d.1 d.2.1 d.2.2.1 d.2.2.2 (ref02_four_5_0_x0 K) (ref02_four_5_0_x1 K)
abbrev ref02_four_5_0_p : List Pat := [.leaf (.str), .leaf (.int .i64), .leaf (.undef), .leaf (.undef), .leaf (.undef), .leaf (.int .i64), .leaf (.int .i64), .leaf (.undef), .leaf (.undef), .leaf (.undef), .leaf (.undef), .leaf (.undef), .leaf (.undef), .leaf (.undef), .leaf (.undef), .leaf (.undef), .leaf (.undef), .leaf (.undef), .leaf (.undef), .leaf (.undef), .leaf (.undef), .leaf (.undef), .leaf (.undef), .leaf (.undef), .leaf (.undef), .leaf (.undef), .leaf (.undef), .leaf (.undef), .leaf (.undef), .leaf (.undef), .leaf (.undef), .leaf (.undef), .leaf (.undef), .leaf (.undef), .leaf (.undef), .leaf (.undef), .leaf (.undef), .leaf (.undef), .leaf (.undef), .leaf (.undef), .leaf (.undef), .leaf (.undef), .leaf (.undef), .leaf (.undef), .leaf (.undef), .leaf (.undef), .leaf (.undef), .leaf (.undef), .leaf (.undef), .leaf (.undef), .leaf (.undef), .leaf (.undef), .leaf (.undef), .leaf (.undef), .leaf (.undef), .leaf (.undef), .leaf (.undef), .leaf (.undef), .leaf (.undef), .leaf (.undef), .leaf (.undef)]
abbrev ref02_four_5_0_q : List HPat := []
noncomputable def ref02_four_5_0_f (x : Pat.dens ref02_four_5_0_p) (y : HPat.dens ref02_four_5_0_q) : Nat := (List.length x.1 + Int.natAbs x.2.1 + Int.natAbs x.2.2.2.2.2.1 + Int.natAbs x.2.2.2.2.2.2.1 + 64)
noncomputable def ref02_four_5_0_d (x : Pat.dens ref02_four_5_0_p) (y : HPat.dens ref02_four_5_0_q) : ref02_four_5_0_D := (x.1, x.2.1, x.2.2.2.2.2.1, x.2.2.2.2.2.2.1)
noncomputable def ref02_four_5_0_rr {R : Type} (L : ref02_four_5_0_ty R) : Pat.dens ref02_four_5_0_p → HPat.dens ref02_four_5_0_q → (Ex → St → Option R) → Option R := fun x y K => L (ref02_four_5_0_f x y) x.1 x.2.1 x.2.2.2.2.2.1 x.2.2.2.2.2.2.1 (ref02_four_5_0_x0 K) (ref02_four_5_0_x1 K)
noncomputable def ref02_four_T (R : Type) (ref02_four_5_0_L : ref02_four_5_0_ty R) : Nat → Option (Hint × LSpec R) := fun i => match i with
  | 5 => some (ref02_four_5_0_h, (loopBy ref02_four_5_0_p ref02_four_5_0_q (ref02_four_5_0_rr ref02_four_5_0_L) loopNo))
  | _ => none

theorem ref02_four_5_0_B_ok {R : Type} (ref02_four_5_0_L : ref02_four_5_0_ty R) (K : Ex → St → Option R) (rc : St → Option R) (d : ref02_four_5_0_D) : roundOf tt (ref02_four_E R) (ref02_four_T R ref02_four_5_0_L) 0 ((loopsOf (codeOf Tryd.f77)).getD 0 .skip) ref02_four_5_0_h (ref02_four_5_0_enc d) rc K = ref02_four_5_0_s K (fun d => rc (ref02_four_5_0_enc d)) d := by kernel_rfl
theorem ref02_four_5_0_A_succ {R : Type} (K : Ex → St → Option R) (n : Nat) (d : ref02_four_5_0_D) : ref02_four_5_0_A K (n + 1) d = ref02_four_5_0_s K (ref02_four_5_0_A K n) d := by kernel_rfl
theorem ref02_four_5_0_A_zero {R : Type} (K : Ex → St → Option R) (d : ref02_four_5_0_D) : ref02_four_5_0_A K 0 d = none := by kernel_rfl
theorem ref02_four_5_0_e_ok (x : Pat.dens ref02_four_5_0_p) (y : HPat.dens ref02_four_5_0_q) : (⟨Pat.encL ref02_four_5_0_p x, HPat.encL ref02_four_5_0_q y⟩ : St) = ref02_four_5_0_enc (ref02_four_5_0_d x y) := by kernel_rfl
theorem ref02_four_5_0_r_ok {R : Type} (x : Pat.dens ref02_four_5_0_p) (y : HPat.dens ref02_four_5_0_q) (K : Ex → St → Option R) : ref02_four_5_0_rr (ref02_four_5_0_L) x y K = ref02_four_5_0_A K (ref02_four_5_0_f x y) (ref02_four_5_0_d x y) := by kernel_rfl
theorem ref02_four_5_0_ok {R : Type} (other : LSpec R) (ho : LsOk tt (ref02_four_E R) (ref02_four_T R ref02_four_5_0_L) 0 ((loopsOf (codeOf Tryd.f77)).getD 0 .skip) ref02_four_5_0_h other) : LsOk tt (ref02_four_E R) (ref02_four_T R ref02_four_5_0_L) 0 ((loopsOf (codeOf Tryd.f77)).getD 0 .skip) ref02_four_5_0_h (loopBy ref02_four_5_0_p ref02_four_5_0_q (ref02_four_5_0_rr (ref02_four_5_0_L)) other) :=
  loopBy_tie (A := ref02_four_5_0_A) ho (loop_tie ref02_four_5_0_enc (ref02_four_5_0_s) (ref02_four_5_0_A) (ref02_four_5_0_A_zero) (ref02_four_5_0_B_ok ref02_four_5_0_L) (ref02_four_5_0_A_succ)) ref02_four_5_0_f ref02_four_5_0_d ref02_four_5_0_e_ok (ref02_four_5_0_r_ok)

noncomputable def ref02_four_X {R : Type} (ref02_four_5_0_L : ref02_four_5_0_ty R) (x1 : Str) (x2 : Int) (k0 : Int → Option R) : Option R :=
  bif (decide ((IntKind.i64.wrap (x2 + 4)) > (x1.length : Int))) then (k0 (-1)) else (ref02_four_5_0_L (List.length x1 + Int.natAbs x2 + Int.natAbs 0 + Int.natAbs x2 + 64) x1 x2 0 x2 (fun y15 => k0 y15) (fun y16 y17 => k0 y16))
noncomputable def ref02_four {R : Type} : ref02_four_ty R := fun x1 x2 k0 => ref02_four_X ref02_four_5_0_L x1 x2 k0
theorem ref02_four_ok {R : Type} (ref02_four_5_0_L : ref02_four_5_0_ty R) (x1 : Str) (x2 : Int) (k : V → Heap → Option R) : funK tt (ref02_four_E R) (ref02_four_T R ref02_four_5_0_L) false Tryd.f77 (codeOf Tryd.f77) [.str x1, .int .i64 x2] [] k =
    ref02_four_X ref02_four_5_0_L x1 x2 (fun q0 => k (.int .i64 q0) []) := by kernel_rfl
theorem ref02_four_loops (R : Type) : ∀ a ∈ loopsOf (codeOf Tryd.f77), LoopOk tt (ref02_four_E R) (ref02_four_T R ref02_four_5_0_L) 0 a := by
  refine loops_ok 1 (by kernel_rfl) fun i hi => ?_
  match i, hi with
  | 0, _ => exact loopOk_some (by kernel_rfl) (ref02_four_5_0_ok _ loopNo_ok)
  | n + 1, hi => omega
theorem ref02_four_S_ok (R : Type) (other : Yard.Spec R) (ho : Yard.Spec.Ok Tryd.prog 77 other) : Yard.Spec.Ok Tryd.prog 77 (specBy ref02_four_p ref02_four_q (ref02_four_rr ref02_four) other) :=
  specBy_ok ho (funK_sound TT mixed (ref02_four_EOk R) (keep := false) rfl rfl rfl rfl 0 (ref02_four_loops R)) fun (x : Pat.dens ref02_four_p) (y : HPat.dens ref02_four_q) k => ref02_four_ok ref02_four_5_0_L x.1 x.2.1 k

/-! ### humpyard/humpyardref02.laid -/
abbrev ref02_laid_ty (R : Type) : Type := Int → ((List Int) → Option R) → Option R
abbrev ref02_laid_p : List Pat := [.leaf (.int .i64)]
abbrev ref02_laid_q : List HPat := []
noncomputable def ref02_laid_rr {R : Type} (fn : ref02_laid_ty R) : Pat.dens ref02_laid_p → HPat.dens ref02_laid_q → (V → Heap → Option R) → Option R := fun x y k => fn x.1 (fun q0 => k (.sl (.int .u8) q0 .no) [])
noncomputable def ref02_laid_E (R : Type) : Env R := fun i => match i with
  | _ => none
theorem ref02_laid_EOk (R : Type) : EOk Tryd.prog (ref02_laid_E R) := by
  intro i b sp h
  unfold ref02_laid_E at h
  split at h
  · cases h

noncomputable def ref02_laid_T (R : Type) : Nat → Option (Hint × LSpec R) := fun i => match i with
  | _ => none

noncomputable def ref02_laid_X {R : Type} (x1 : Int) (k0 : (List Int) → Option R) : Option R :=
  bif (decide (x1 < (128 : Int))) then (k0 ([(IntKind.u8.wrap x1)] : List Int)) else (bif (decide (x1 < (2048 : Int))) then (k0 ([(IntKind.u8.wrap (IntKind.i64.wrap ((BitVec.ofInt IntKind.i64.bits 192 ||| BitVec.ofInt IntKind.i64.bits (Int.fdiv x1 (2 ^ (min 6 IntKind.i64.bits)))).toNat : Int))), (IntKind.u8.wrap (IntKind.i64.wrap ((BitVec.ofInt IntKind.i64.bits 128 ||| BitVec.ofInt IntKind.i64.bits (IntKind.i64.wrap ((BitVec.ofInt IntKind.i64.bits x1 &&& BitVec.ofInt IntKind.i64.bits 63).toNat : Int))).toNat : Int)))] : List Int)) else (bif (decide (x1 < (65536 : Int))) then (k0 ([(IntKind.u8.wrap (IntKind.i64.wrap ((BitVec.ofInt IntKind.i64.bits 224 ||| BitVec.ofInt IntKind.i64.bits (Int.fdiv x1 (2 ^ (min 12 IntKind.i64.bits)))).toNat : Int))), (IntKind.u8.wrap (IntKind.i64.wrap ((BitVec.ofInt IntKind.i64.bits 128 ||| BitVec.ofInt IntKind.i64.bits (IntKind.i64.wrap ((BitVec.ofInt IntKind.i64.bits (Int.fdiv x1 (2 ^ (min 6 IntKind.i64.bits))) &&& BitVec.ofInt IntKind.i64.bits 63).toNat : Int))).toNat : Int))), (IntKind.u8.wrap (IntKind.i64.wrap ((BitVec.ofInt IntKind.i64.bits 128 ||| BitVec.ofInt IntKind.i64.bits (IntKind.i64.wrap ((BitVec.ofInt IntKind.i64.bits x1 &&& BitVec.ofInt IntKind.i64.bits 63).toNat : Int))).toNat : Int)))] : List Int)) else (k0 ([(IntKind.u8.wrap (IntKind.i64.wrap ((BitVec.ofInt IntKind.i64.bits 240 ||| BitVec.ofInt IntKind.i64.bits (Int.fdiv x1 (2 ^ (min 18 IntKind.i64.bits)))).toNat : Int))), (IntKind.u8.wrap (IntKind.i64.wrap ((BitVec.ofInt IntKind.i64.bits 128 ||| BitVec.ofInt IntKind.i64.bits (IntKind.i64.wrap ((BitVec.ofInt IntKind.i64.bits (Int.fdiv x1 (2 ^ (min 12 IntKind.i64.bits))) &&& BitVec.ofInt IntKind.i64.bits 63).toNat : Int))).toNat : Int))), (IntKind.u8.wrap (IntKind.i64.wrap ((BitVec.ofInt IntKind.i64.bits 128 ||| BitVec.ofInt IntKind.i64.bits (IntKind.i64.wrap ((BitVec.ofInt IntKind.i64.bits (Int.fdiv x1 (2 ^ (min 6 IntKind.i64.bits))) &&& BitVec.ofInt IntKind.i64.bits 63).toNat : Int))).toNat : Int))), (IntKind.u8.wrap (IntKind.i64.wrap ((BitVec.ofInt IntKind.i64.bits 128 ||| BitVec.ofInt IntKind.i64.bits (IntKind.i64.wrap ((BitVec.ofInt IntKind.i64.bits x1 &&& BitVec.ofInt IntKind.i64.bits 63).toNat : Int))).toNat : Int)))] : List Int))))
noncomputable def ref02_laid {R : Type} : ref02_laid_ty R := fun x1 k0 => ref02_laid_X x1 k0
theorem ref02_laid_ok {R : Type} (x1 : Int) (k : V → Heap → Option R) : funK tt (ref02_laid_E R) (ref02_laid_T R) false Tryd.f78 (codeOf Tryd.f78) [.int .i64 x1] [] k =
    ref02_laid_X x1 (fun q0 => k (.sl (.int .u8) q0 .no) []) := by kernel_rfl
theorem ref02_laid_loops (R : Type) : ∀ a ∈ loopsOf (codeOf Tryd.f78), LoopOk tt (ref02_laid_E R) (ref02_laid_T R) 0 a := by
  refine loops_ok 0 (by kernel_rfl) fun i hi => ?_
  omega
theorem ref02_laid_S_ok (R : Type) (other : Yard.Spec R) (ho : Yard.Spec.Ok Tryd.prog 78 other) : Yard.Spec.Ok Tryd.prog 78 (specBy ref02_laid_p ref02_laid_q (ref02_laid_rr ref02_laid) other) :=
  specBy_ok ho (funK_sound TT mixed (ref02_laid_EOk R) (keep := false) rfl rfl rfl rfl 0 (ref02_laid_loops R)) fun (x : Pat.dens ref02_laid_p) (y : HPat.dens ref02_laid_q) k => ref02_laid_ok x.1 k

/-! ### humpyard/humpyardref02.escape -/
abbrev ref02_escape_ty (R : Type) : Type := Str → Int → ((List Int) → Int → Option R) → Option R
abbrev ref02_escape_p : List Pat := [.leaf (.str), .leaf (.int .i64)]
abbrev ref02_escape_q : List HPat := []
noncomputable def ref02_escape_rr {R : Type} (fn : ref02_escape_ty R) : Pat.dens ref02_escape_p → HPat.dens ref02_escape_q → (V → Heap → Option R) → Option R := fun x y k => fn x.1 x.2.1 (fun q0 q1 => k (.tuple [.sl (.int .u8) q0 .no, .int .i64 q1]) [])
noncomputable def ref02_escape_E (R : Type) (ref02_four : ref02_four_ty R) (ref02_laid : ref02_laid_ty R) : Env R := fun i => match i with
  | 77 => some (true, (specBy ref02_four_p ref02_four_q (ref02_four_rr ref02_four) specNo))
  | 78 => some (true, (specBy ref02_laid_p ref02_laid_q (ref02_laid_rr ref02_laid) specNo))
  | _ => none
theorem ref02_escape_EOk (R : Type) : EOk Tryd.prog (ref02_escape_E R ref02_four ref02_laid) := by
  intro i b sp h
  unfold ref02_escape_E at h
  split at h
  · cases h; exact ⟨(ref02_four_S_ok R _ (specNo_ok _)), fun h => nomatch h⟩
  · cases h; exact ⟨(ref02_laid_S_ok R _ (specNo_ok _)), fun h => nomatch h⟩
  · cases h

noncomputable def ref02_escape_T (R : Type) : Nat → Option (Hint × LSpec R) := fun i => match i with
  | _ => none

noncomputable def ref02_escape_X {R : Type} (ref02_four : ref02_four_ty R) (ref02_laid : ref02_laid_ty R) (x1 : Str) (x2 : Int) (k0 : (List Int) → Int → Option R) : Option R :=
  bif (decide (x2 ≥ (x1.length : Int))) then (k0 ([] : List Int) 0) else (chk (decide ((0 : Int) ≤ x2) && decide (x2 < x1.length)) (let j15 := fun (z3 : Bool) => bif z3 then (chk (decide ((0 : Int) ≤ x2) && decide (x2 < x1.length)) (k0 ([((x1.getD x2.toNat 0).toNat : Int)] : List Int) 1)) else (bif (((x1.getD x2.toNat 0).toNat : Int) == 98) then (k0 ([8] : List Int) 1) else (bif (((x1.getD x2.toNat 0).toNat : Int) == 102) then (k0 ([12] : List Int) 1) else (bif (((x1.getD x2.toNat 0).toNat : Int) == 110) then (k0 ([10] : List Int) 1) else (bif (((x1.getD x2.toNat 0).toNat : Int) == 114) then (k0 ([13] : List Int) 1) else (bif (((x1.getD x2.toNat 0).toNat : Int) == 116) then (k0 ([9] : List Int) 1) else (bif (((x1.getD x2.toNat 0).toNat : Int) == 117) then (ref02_four x1 (IntKind.i64.wrap (x2 + 1)) (fun y4 => let j14 := bif (decide (y4 < (55296 : Int))) then (ref02_laid y4 (fun y8 => k0 y8 5)) else (bif (decide (y4 > (57343 : Int))) then (ref02_laid y4 (fun y9 => k0 y9 5)) else (bif (decide ((IntKind.i64.wrap (x2 + 7)) > (x1.length : Int))) then (k0 ([] : List Int) 0) else (chk (decide ((0 : Int) ≤ (IntKind.i64.wrap (x2 + 5))) && decide ((IntKind.i64.wrap (x2 + 5)) < x1.length)) (bif (((x1.getD ((IntKind.i64.wrap (x2 + 5)).toNat) 0).toNat : Int) != 92) then (k0 ([] : List Int) 0) else (chk (decide ((0 : Int) ≤ (IntKind.i64.wrap (x2 + 6))) && decide ((IntKind.i64.wrap (x2 + 6)) < x1.length)) (bif (((x1.getD ((IntKind.i64.wrap (x2 + 6)).toNat) 0).toNat : Int) != 117) then (k0 ([] : List Int) 0) else (ref02_four x1 (IntKind.i64.wrap (x2 + 7)) (fun y11 => bif (decide (y11 < (56320 : Int))) then (k0 ([] : List Int) 0) else (bif (decide (y11 > (57343 : Int))) then (k0 ([] : List Int) 0) else (ref02_laid (IntKind.i64.wrap ((IntKind.i64.wrap ((IntKind.i64.wrap (65536 + (IntKind.i64.wrap ((IntKind.i64.wrap (y4 - 55296)) * 2 ^ (min 10 IntKind.i64.bits))))) + y11)) - 56320)) (fun y13 => k0 y13 11))))))))))); bif (decide (y4 < (0 : Int))) then (k0 ([] : List Int) 0) else (bif (decide (y4 ≥ (56320 : Int))) then (bif (decide (y4 ≤ (57343 : Int))) then (k0 ([] : List Int) 0) else (j14)) else (j14)))) else (k0 ([] : List Int) 0))))))); bif (((x1.getD x2.toNat 0).toNat : Int) == 34) then (j15 (((x1.getD x2.toNat 0).toNat : Int) == 34)) else (bif (((x1.getD x2.toNat 0).toNat : Int) == 92) then (j15 (((x1.getD x2.toNat 0).toNat : Int) == 92)) else (j15 (((x1.getD x2.toNat 0).toNat : Int) == 47)))))
noncomputable def ref02_escape {R : Type} : ref02_escape_ty R := fun x1 x2 k0 => ref02_escape_X ref02_four ref02_laid x1 x2 k0
theorem ref02_escape_ok {R : Type} (ref02_four : ref02_four_ty R) (ref02_laid : ref02_laid_ty R) (x1 : Str) (x2 : Int) (k : V → Heap → Option R) : funK tt (ref02_escape_E R ref02_four ref02_laid) (ref02_escape_T R) false Tryd.f53 (codeOf Tryd.f53) [.str x1, .int .i64 x2] [] k =
    ref02_escape_X ref02_four ref02_laid x1 x2 (fun q0 q1 => k (.tuple [.sl (.int .u8) q0 .no, .int .i64 q1]) []) := by kernel_rfl
theorem ref02_escape_loops (R : Type) : ∀ a ∈ loopsOf (codeOf Tryd.f53), LoopOk tt (ref02_escape_E R ref02_four ref02_laid) (ref02_escape_T R) 0 a := by
  refine loops_ok 0 (by kernel_rfl) fun i hi => ?_
  omega
theorem ref02_escape_S_ok (R : Type) (other : Yard.Spec R) (ho : Yard.Spec.Ok Tryd.prog 53 other) : Yard.Spec.Ok Tryd.prog 53 (specBy ref02_escape_p ref02_escape_q (ref02_escape_rr ref02_escape) other) :=
  specBy_ok ho (funK_sound TT mixed (ref02_escape_EOk R) (keep := false) rfl rfl rfl rfl 0 (ref02_escape_loops R)) fun (x : Pat.dens ref02_escape_p) (y : HPat.dens ref02_escape_q) k => ref02_escape_ok ref02_four ref02_laid x.1 x.2.1 k

/-! ### humpyard/humpyardref02.Unquote -/
abbrev ref02_Unquote_ty (R : Type) : Type := Str → (Str → Int → Bool → Option R) → Option R
abbrev ref02_Unquote_p : List Pat := [.leaf (.str)]
abbrev ref02_Unquote_q : List HPat := []
noncomputable def ref02_Unquote_rr {R : Type} (fn : ref02_Unquote_ty R) : Pat.dens ref02_Unquote_p → HPat.dens ref02_Unquote_q → (V → Heap → Option R) → Option R := fun x y k => fn x.1 (fun q0 q1 q2 => k (.tuple [.str q0, .int .i64 q1, .bool q2]) [])
abbrev ref02_Unquote_5_0_ty (R : Type) : Type := Nat → Str → (List Int) → Int → (Option R) → (Str → Int → Bool → Option R) → Option R
noncomputable def ref02_Unquote_E (R : Type) (ref02_escape : ref02_escape_ty R) (ref02_one : ref02_one_ty R) : Env R := fun i => match i with
  | 53 => some (true, (specBy ref02_escape_p ref02_escape_q (ref02_escape_rr ref02_escape) specNo))
  | 54 => some (true, (specBy ref02_one_p ref02_one_q (ref02_one_rr ref02_one) specNo))
  | _ => none
theorem ref02_Unquote_EOk (R : Type) : EOk Tryd.prog (ref02_Unquote_E R ref02_escape ref02_one) := by
  intro i b sp h
  unfold ref02_Unquote_E at h
  split at h
  · cases h; exact ⟨(ref02_escape_S_ok R _ (specNo_ok _)), fun h => nomatch h⟩
  · cases h; exact ⟨(ref02_one_S_ok R _ (specNo_ok _)), fun h => nomatch h⟩
  · cases h

noncomputable def ref02_Unquote_5_0_B {R : Type} (ref02_escape : ref02_escape_ty R) (ref02_one : ref02_one_ty R) (rec' : Str → (List Int) → Int → Option R) (x3 : Str) (x4 : List Int) (x5 : Int) (e0 : Option R) (e1 : Str → Int → Bool → Option R) : Option R :=
  bif (decide (x5 < (x3.length : Int))) then (chk (decide ((0 : Int) ≤ x5) && decide (x5 < x3.length)) (bif (((x3.getD x5.toNat 0).toNat : Int) == 34) then (e1 (List.map (fun n : Int => UInt8.ofNat n.toNat) x4 : Str) (IntKind.i64.wrap (x5 + 1)) true) else (chk (decide ((0 : Int) ≤ x5) && decide (x5 < x3.length)) (bif (decide (((x3.getD x5.toNat 0).toNat : Int) < (32 : Int))) then (e1 ([] : Str) 0 false) else (chk (decide ((0 : Int) ≤ x5) && decide (x5 < x3.length)) (bif (((x3.getD x5.toNat 0).toNat : Int) == 92) then (ref02_escape x3 (IntKind.i64.wrap (x5 + 1)) (fun y6 y7 => bif (y7 == 0) then (e1 ([] : Str) 0 false) else (chk (decide ((x4.length + y6.length) * 1 ≤ 140737488355328)) (rec' x3 ((x4 : List Int) ++ (y6 : List Int)) (IntKind.i64.wrap ((IntKind.i64.wrap (x5 + 1)) + y7)))))) else (ref02_one x3 x5 (fun y8 => bif (y8 == 0) then (e1 ([] : Str) 0 false) else (chk (decide ((0 : Int) ≤ (IntKind.i64.wrap (x5 + y8))) && decide ((IntKind.i64.wrap (x5 + y8)) ≤ x3.length)) (chk (decide ((0 : Int) ≤ x5) && decide (x5 ≤ (IntKind.i64.wrap (x5 + y8)))) (chk (decide ((x4.length + (bytesN ((x3.drop x5.toNat).take ((IntKind.i64.wrap (x5 + y8)).toNat - x5.toNat))).length) * 1 ≤ 140737488355328)) (rec' x3 ((x4 : List Int) ++ ((bytesN ((x3.drop x5.toNat).take ((IntKind.i64.wrap (x5 + y8)).toNat - x5.toNat))) : List Int)) (IntKind.i64.wrap (x5 + y8)))))))))))))) else (e0)
noncomputable def ref02_Unquote_5_0_L {R : Type} : ref02_Unquote_5_0_ty R
  | 0, _, _, _, _, _ => none
  | n + 1, x0', x1', x2', e0, e1 => ref02_Unquote_5_0_B ref02_escape ref02_one (fun x0' x1' x2' => ref02_Unquote_5_0_L n x0' x1' x2' e0 e1) x0' x1' x2' e0 e1
noncomputable def ref02_Unquote_5_0_h : Hint := { live := [0, 5, 6], own := [(5, (.int .u8))], rows := [], cells := [], drop := [], out := [2, 3, 4] }
abbrev ref02_Unquote_5_0_D : Type := Str × (List Int) × Int
noncomputable def ref02_Unquote_5_0_enc : ref02_Unquote_5_0_D → St := fun d => ⟨[.str d.1, .undef, .undef, .undef, .undef, .sl (.int .u8) d.2.1 (.own 0), .int .i64 d.2.2, .undef, .undef, .undef, .undef, .undef, .undef, .undef, .undef, .undef, .undef, .undef, .undef, .undef, .undef, .undef, .undef, .undef, .undef, .undef, .undef, .undef, .undef, .undef, .undef, .undef, .undef, .undef, .undef, .undef, .undef, .undef, .undef, .undef, .undef, .undef, .undef, .undef, .undef, .undef, .undef, .undef, .undef, .undef, .undef, .undef, .undef, .undef, .undef, .undef, .undef, .undef, .undef, .undef, .undef, .undef, .undef, .undef, .undef, .undef, .undef, .undef, .undef, .undef, .undef, .undef, .undef], [.tok]⟩
noncomputable def ref02_Unquote_5_0_x0 {R : Type} (K : Ex → St → Option R) : Option R := K (.exit 0) ⟨[.undef, .undef, .undef, .undef, .undef, .undef, .undef, .undef, .undef, .undef, .undef, .undef, .undef, .undef, .undef, .undef, .undef, .undef, .undef, .undef, .undef, .undef, .undef, .undef, .undef, .undef, .undef, .undef, .undef, .undef, .undef, .undef, .undef, .undef, .undef, .undef, .undef, .undef, .undef, .undef, .undef, .undef, .undef, .undef, .undef, .undef, .undef, .undef, .undef, .undef, .undef, .undef, .undef, .undef, .undef, .undef, .undef, .undef, .undef, .undef, .undef, .undef, .undef, .undef, .undef, .undef, .undef, .undef, .undef, .undef, .undef, .undef, .undef], []⟩
noncomputable def ref02_Unquote_5_0_x1 {R : Type} (K : Ex → St → Option R) (q0 : Str) (q1 : Int) (q2 : Bool) : Option R := K (.ret) ⟨[.undef, .undef, .str q0, .int .i64 q1, .bool q2, .undef, .undef, .undef, .undef, .undef, .undef, .undef, .undef, .undef, .undef, .undef, .undef, .undef, .undef, .undef, .undef, .undef, .undef, .undef, .undef, .undef, .undef, .undef, .undef, .undef, .undef, .undef, .undef, .undef, .undef, .undef, .undef, .undef, .undef, .undef, .undef, .undef, .undef, .undef, .undef, .undef, .undef, .undef, .undef, .undef, .undef, .undef, .undef, .undef, .undef, .undef, .undef, .undef, .undef, .undef, .undef, .undef, .undef, .undef, .undef, .undef, .undef, .undef, .undef, .undef, .undef, .undef, .undef], []⟩
noncomputable def ref02_Unquote_5_0_s {R : Type} (ref02_escape : ref02_escape_ty R) (ref02_one : ref02_one_ty R) (K : Ex → St → Option R) (rc : ref02_Unquote_5_0_D → Option R) (d : ref02_Unquote_5_0_D) : Option R := ref02_Unquote_5_0_B ref02_escape ref02_one (fun z0 z1 z2 => rc (z0, z1, z2)) d.1 d.2.1 d.2.2 (ref02_Unquote_5_0_x0 K) (ref02_Unquote_5_0_x1 K)
noncomputable def ref02_Unquote_5_0_A {R : Type} (K : Ex → St → Option R) (n : Nat) (d : ref02_Unquote_5_0_D) : Option R := ref02_Unquote_5_0_L n d.1 d.2.1 d.2.2 (ref02_Unquote_5_0_x0 K) (ref02_Unquote_5_0_x1 K)
abbrev ref02_Unquote_5_0_p : List Pat := [.leaf (.str), .leaf (.undef), .leaf (.undef), .leaf (.undef), .leaf (.undef), .leaf (.slo (.int .u8) 0), .leaf (.int .i64), .leaf (.undef), .leaf (.undef), .leaf (.undef), .leaf (.undef), .leaf (.undef), .leaf (.undef), .leaf (.undef), .leaf (.undef), .leaf (.undef), .leaf (.undef), .leaf (.undef), .leaf (.undef), .leaf (.undef), .leaf (.undef), .leaf (.undef), .leaf (.undef), .leaf (.undef), .leaf (.undef), .leaf (.undef), .leaf (.undef), .leaf (.undef), .leaf (.undef), .leaf (.undef), .leaf (.undef), .leaf (.undef), .leaf (.undef), .leaf (.undef), .leaf (.undef), .leaf (.undef), .leaf (.undef), .leaf (.undef), .leaf (.undef), .leaf (.undef), .leaf (.undef), .leaf (.undef), .leaf (.undef), .leaf (.undef), .leaf (.undef), .leaf (.undef), .leaf (.undef), .leaf (.undef), .leaf (.undef), .leaf (.undef), .leaf (.undef), .leaf (.undef), .leaf (.undef), .leaf (.undef), .leaf (.undef), .leaf (.undef), .leaf (.undef), .leaf (.undef), .leaf (.undef), .leaf (.undef), .leaf (.undef), .leaf (.undef), .leaf (.undef), .leaf (.undef), .leaf (.undef), .leaf (.undef), .leaf (.undef), .leaf (.undef), .leaf (.undef), .leaf (.undef), .leaf (.undef), .leaf (.undef), .leaf (.undef)]
abbrev ref02_Unquote_5_0_q : List HPat := [.tok]
noncomputable def ref02_Unquote_5_0_f (x : Pat.dens ref02_Unquote_5_0_p) (y : HPat.dens ref02_Unquote_5_0_q) : Nat := (List.length x.1 + List.length x.2.2.2.2.2.1 + Int.natAbs x.2.2.2.2.2.2.1 + 64)
noncomputable def ref02_Unquote_5_0_d (x : Pat.dens ref02_Unquote_5_0_p) (y : HPat.dens ref02_Unquote_5_0_q) : ref02_Unquote_5_0_D := (x.1, x.2.2.2.2.2.1, x.2.2.2.2.2.2.1)
noncomputable def ref02_Unquote_5_0_rr {R : Type} (L : ref02_Unquote_5_0_ty R) : Pat.dens ref02_Unquote_5_0_p → HPat.dens ref02_Unquote_5_0_q → (Ex → St → Option R) → Option R := fun x y K => L (ref02_Unquote_5_0_f x y) x.1 x.2.2.2.2.2.1 x.2.2.2.2.2.2.1 (ref02_Unquote_5_0_x0 K) (ref02_Unquote_5_0_x1 K)
noncomputable def ref02_Unquote_T (R : Type) (ref02_Unquote_5_0_L : ref02_Unquote_5_0_ty R) : Nat → Option (Hint × LSpec R) := fun i => match i with
  | 5 => some (ref02_Unquote_5_0_h, (loopBy ref02_Unquote_5_0_p ref02_Unquote_5_0_q (ref02_Unquote_5_0_rr ref02_Unquote_5_0_L) loopNo))
  | _ => none

theorem ref02_Unquote_5_0_B_ok {R : Type} (ref02_escape : ref02_escape_ty R) (ref02_one : ref02_one_ty R) (ref02_Unquote_5_0_L : ref02_Unquote_5_0_ty R) (K : Ex → St → Option R) (rc : St → Option R) (d : ref02_Unquote_5_0_D) : roundOf tt (ref02_Unquote_E R ref02_escape ref02_one) (ref02_Unquote_T R ref02_Unquote_5_0_L) 0 ((loopsOf (codeOf Tryd.f23)).getD 0 .skip) ref02_Unquote_5_0_h (ref02_Unquote_5_0_enc d) rc K = ref02_Unquote_5_0_s ref02_escape ref02_one K (fun d => rc (ref02_Unquote_5_0_enc d)) d := by kernel_rfl
theorem ref02_Unquote_5_0_A_succ {R : Type} (K : Ex → St → Option R) (n : Nat) (d : ref02_Unquote_5_0_D) : ref02_Unquote_5_0_A K (n + 1) d = ref02_Unquote_5_0_s ref02_escape ref02_one K (ref02_Unquote_5_0_A K n) d := by kernel_rfl
theorem ref02_Unquote_5_0_A_zero {R : Type} (K : Ex → St → Option R) (d : ref02_Unquote_5_0_D) : ref02_Unquote_5_0_A K 0 d = none := by kernel_rfl
theorem ref02_Unquote_5_0_e_ok (x : Pat.dens ref02_Unquote_5_0_p) (y : HPat.dens ref02_Unquote_5_0_q) : (⟨Pat.encL ref02_Unquote_5_0_p x, HPat.encL ref02_Unquote_5_0_q y⟩ : St) = ref02_Unquote_5_0_enc (ref02_Unquote_5_0_d x y) := by kernel_rfl
theorem ref02_Unquote_5_0_r_ok {R : Type} (x : Pat.dens ref02_Unquote_5_0_p) (y : HPat.dens ref02_Unquote_5_0_q) (K : Ex → St → Option R) : ref02_Unquote_5_0_rr (ref02_Unquote_5_0_L) x y K = ref02_Unquote_5_0_A K (ref02_Unquote_5_0_f x y) (ref02_Unquote_5_0_d x y) := by kernel_rfl
theorem ref02_Unquote_5_0_ok {R : Type} (other : LSpec R) (ho : LsOk tt (ref02_Unquote_E R ref02_escape ref02_one) (ref02_Unquote_T R ref02_Unquote_5_0_L) 0 ((loopsOf (codeOf Tryd.f23)).getD 0 .skip) ref02_Unquote_5_0_h other) : LsOk tt (ref02_Unquote_E R ref02_escape ref02_one) (ref02_Unquote_T R ref02_Unquote_5_0_L) 0 ((loopsOf (codeOf Tryd.f23)).getD 0 .skip) ref02_Unquote_5_0_h (loopBy ref02_Unquote_5_0_p ref02_Unquote_5_0_q (ref02_Unquote_5_0_rr (ref02_Unquote_5_0_L)) other) :=
  loopBy_tie (A := ref02_Unquote_5_0_A) ho (loop_tie ref02_Unquote_5_0_enc (ref02_Unquote_5_0_s ref02_escape ref02_one) (ref02_Unquote_5_0_A) (ref02_Unquote_5_0_A_zero) (ref02_Unquote_5_0_B_ok ref02_escape ref02_one ref02_Unquote_5_0_L) (ref02_Unquote_5_0_A_succ)) ref02_Unquote_5_0_f ref02_Unquote_5_0_d ref02_Unquote_5_0_e_ok (ref02_Unquote_5_0_r_ok)

noncomputable def ref02_Unquote_X {R : Type} (ref02_Unquote_5_0_L : ref02_Unquote_5_0_ty R) (x1 : Str) (k0 : Str → Int → Bool → Option R) : Option R :=
  bif (decide ((x1.length : Int) < (2 : Int))) then (k0 ([] : Str) 0 false) else (chk (decide ((0 : Int) < x1.length)) (bif (((x1.getD 0 0).toNat : Int) != 34) then (k0 ([] : Str) 0 false) else (ref02_Unquote_5_0_L (List.length x1 + List.length ([] : List Int) + Int.natAbs 1 + 64) x1 ([] : List Int) 1 (k0 ([] : Str) 0 false) (fun y9 y10 y11 => k0 y9 y10 y11))))
noncomputable def ref02_Unquote {R : Type} : ref02_Unquote_ty R := fun x1 k0 => ref02_Unquote_X ref02_Unquote_5_0_L x1 k0
theorem ref02_Unquote_ok {R : Type} (ref02_escape : ref02_escape_ty R) (ref02_one : ref02_one_ty R) (ref02_Unquote_5_0_L : ref02_Unquote_5_0_ty R) (x1 : Str) (k : V → Heap → Option R) : funK tt (ref02_Unquote_E R ref02_escape ref02_one) (ref02_Unquote_T R ref02_Unquote_5_0_L) false Tryd.f23 (codeOf Tryd.f23) [.str x1] [] k =
    ref02_Unquote_X ref02_Unquote_5_0_L x1 (fun q0 q1 q2 => k (.tuple [.str q0, .int .i64 q1, .bool q2]) []) := by kernel_rfl
theorem ref02_Unquote_loops (R : Type) : ∀ a ∈ loopsOf (codeOf Tryd.f23), LoopOk tt (ref02_Unquote_E R ref02_escape ref02_one) (ref02_Unquote_T R ref02_Unquote_5_0_L) 0 a := by
  refine loops_ok 1 (by kernel_rfl) fun i hi => ?_
  match i, hi with
  | 0, _ => exact loopOk_some (by kernel_rfl) (ref02_Unquote_5_0_ok _ loopNo_ok)
  | n + 1, hi => omega
theorem ref02_Unquote_S_ok (R : Type) (other : Yard.Spec R) (ho : Yard.Spec.Ok Tryd.prog 23 other) : Yard.Spec.Ok Tryd.prog 23 (specBy ref02_Unquote_p ref02_Unquote_q (ref02_Unquote_rr ref02_Unquote) other) :=
  specBy_ok ho (funK_sound TT mixed (ref02_Unquote_EOk R) (keep := false) rfl rfl rfl rfl 0 (ref02_Unquote_loops R)) fun (x : Pat.dens ref02_Unquote_p) (y : HPat.dens ref02_Unquote_q) k => ref02_Unquote_ok ref02_escape ref02_one ref02_Unquote_5_0_L x.1 k

end Go.Proofs.YtifgegmnngfckaaDoor

/-
  Functions of the program as pure Lean functions, and the ties; printed by wip/tools/emit.py.
-/
set_option maxRecDepth 100000
set_option linter.unusedVariables false
namespace Go.Proofs.YtifgegmnngfckaaDoor
open Go Go.Yard

/-! ### humpyard/humpyardlaw02.QuoteTells -/
abbrev law02_QuoteTells_ty (R : Type) : Type := Str → (List Int) → Int → Str → (Bool → Option R) → Option R
abbrev law02_QuoteTells_p : List Pat := [.leaf (.str), .leaf (.sl (.int .i64)), .leaf (.int .i64), .leaf (.str)]
abbrev law02_QuoteTells_q : List HPat := []
noncomputable def law02_QuoteTells_rr {R : Type} (fn : law02_QuoteTells_ty R) : Pat.dens law02_QuoteTells_p → HPat.dens law02_QuoteTells_q → (V → Heap → Option R) → Option R := fun x y k => fn x.1 x.2.1 x.2.2.1 x.2.2.2.1 (fun q0 => k (.bool q0) [])
abbrev law02_QuoteTells_6_0_ty (R : Type) : Type := Nat → Bool → (List Str) → Int → Int → (Bool → Option R) → (Bool → Bool → Option R) → Option R
noncomputable def law02_QuoteTells_E (R : Type) (law02_awake : law02_awake_ty R) (law02_Text : law02_Text_ty R) (ref02_Quote : ref02_Quote_ty R) (law02_pick : law02_pick_ty R) (quote_Quote : quote_Quote_ty R) (quote_Unquote : quote_Unquote_ty R) (ref02_Unquote : ref02_Unquote_ty R) (quote_Whole : quote_Whole_ty R) (ref02_Whole : ref02_Whole_ty R) : Env R := fun i => match i with
  | 17 => some (true, (specBy law02_awake_p law02_awake_q (law02_awake_rr law02_awake) specNo))
  | 18 => some (true, (specBy law02_Text_p law02_Text_q (law02_Text_rr law02_Text) specNo))
  | 19 => some (true, (specBy ref02_Quote_p ref02_Quote_q (ref02_Quote_rr ref02_Quote) specNo))
  | 20 => some (true, (specBy law02_pick_p law02_pick_q (law02_pick_rr law02_pick) specNo))
  | 21 => some (true, (specBy quote_Quote_p quote_Quote_q (quote_Quote_rr quote_Quote) specNo))
  | 22 => some (true, (specBy quote_Unquote_p quote_Unquote_q (quote_Unquote_rr quote_Unquote) specNo))
  | 23 => some (true, (specBy ref02_Unquote_p ref02_Unquote_q (ref02_Unquote_rr ref02_Unquote) specNo))
  | 24 => some (true, (specBy quote_Whole_p quote_Whole_q (quote_Whole_rr quote_Whole) specNo))
  | 25 => some (true, (specBy ref02_Whole_p ref02_Whole_q (ref02_Whole_rr ref02_Whole) specNo))
  | _ => none
theorem law02_QuoteTells_EOk (R : Type) : EOk Tryd.prog (law02_QuoteTells_E R law02_awake law02_Text ref02_Quote law02_pick quote_Quote quote_Unquote ref02_Unquote quote_Whole ref02_Whole) := by
  intro i b sp h
  unfold law02_QuoteTells_E at h
  split at h
  · cases h; exact ⟨(law02_awake_S_ok R _ (specNo_ok _)), fun h => nomatch h⟩
  · cases h; exact ⟨(law02_Text_S_ok R _ (specNo_ok _)), fun h => nomatch h⟩
  · cases h; exact ⟨(ref02_Quote_S_ok R _ (specNo_ok _)), fun h => nomatch h⟩
  · cases h; exact ⟨(law02_pick_S_ok R _ (specNo_ok _)), fun h => nomatch h⟩
  · cases h; exact ⟨(quote_Quote_S_ok R _ (specNo_ok _)), fun h => nomatch h⟩
  · cases h; exact ⟨(quote_Unquote_S_ok R _ (specNo_ok _)), fun h => nomatch h⟩
  · cases h; exact ⟨(ref02_Unquote_S_ok R _ (specNo_ok _)), fun h => nomatch h⟩
  · cases h; exact ⟨(quote_Whole_S_ok R _ (specNo_ok _)), fun h => nomatch h⟩
  · cases h; exact ⟨(ref02_Whole_S_ok R _ (specNo_ok _)), fun h => nomatch h⟩
  · cases h

noncomputable def law02_QuoteTells_6_0_B {R : Type} (ref02_Quote : ref02_Quote_ty R) (quote_Quote : quote_Quote_ty R) (quote_Unquote : quote_Unquote_ty R) (ref02_Unquote : ref02_Unquote_ty R) (quote_Whole : quote_Whole_ty R) (ref02_Whole : ref02_Whole_ty R) (rec' : Bool → (List Str) → Int → Int → Option R) (x10 : Bool) (x11 : List Str) (x12 : Int) (x13 : Int) (e0 : Bool → Option R) (e1 : Bool → Bool → Option R) : Option R :=
  bif (decide (x13 < x12)) then (chk (decide ((0 : Int) ≤ x13) && decide (x13 < x11.length)) (quote_Quote (x11.getD x13.toNat (Ty.dflt .str)) (fun y14 y15 => ref02_Quote (x11.getD x13.toNat (Ty.dflt .str)) (fun y16 y17 => quote_Unquote (x11.getD x13.toNat (Ty.dflt .str)) (fun y18 y19 y20 => ref02_Unquote (x11.getD x13.toNat (Ty.dflt .str)) (fun y21 y22 y23 => bif (!(y14 == y16)) then (e1 false x10) else (bif (!(y15 == y17)) then (e1 false x10) else (bif (!(y18 == y21)) then (e1 false x10) else (bif (y19 != y22) then (e1 false x10) else (bif (!(y20 == y23)) then (e1 false x10) else (quote_Whole (x11.getD x13.toNat (Ty.dflt .str)) (fun y24 => ref02_Whole (x11.getD x13.toNat (Ty.dflt .str)) (fun y25 => bif (!(y24 == y25)) then (e1 false x10) else (rec' x10 x11 x12 (IntKind.i64.wrap (x13 + 1)))))))))))))))) else (e0 x10)
noncomputable def law02_QuoteTells_6_0_L {R : Type} : law02_QuoteTells_6_0_ty R
  | 0, _, _, _, _, _, _ => none
  | n + 1, x0', x1', x2', x3', e0, e1 => law02_QuoteTells_6_0_B ref02_Quote quote_Quote quote_Unquote ref02_Unquote quote_Whole ref02_Whole (fun x0' x1' x2' x3' => law02_QuoteTells_6_0_L n x0' x1' x2' x3' e0 e1) x0' x1' x2' x3' e0 e1
noncomputable def law02_QuoteTells_6_0_h : Hint := { live := [9, 77, 78, 79], own := [], rows := [], cells := [], drop := [], out := [8, 9] }
abbrev law02_QuoteTells_6_0_D : Type := Bool × (List Str) × Int × Int
noncomputable def law02_QuoteTells_6_0_enc : law02_QuoteTells_6_0_D → St := fun d => ⟨[.undef, .undef, .undef, .undef, .undef, .undef, .undef, .undef, .undef, .bool d.1, .undef, .undef, .undef, .undef, .undef, .undef, .undef, .undef, .undef, .undef, .undef, .undef, .undef, .undef, .undef, .undef, .undef, .undef, .undef, .undef, .undef, .undef, .undef, .undef, .undef, .undef, .undef, .undef, .undef, .undef, .undef, .undef, .undef, .undef, .undef, .undef, .undef, .undef, .undef, .undef, .undef, .undef, .undef, .undef, .undef, .undef, .undef, .undef, .undef, .undef, .undef, .undef, .undef, .undef, .undef, .undef, .undef, .undef, .undef, .undef, .undef, .undef, .undef, .undef, .undef, .undef, .undef, .sl .str d.2.1 (.own 0), .int .i64 d.2.2.1, .int .i64 d.2.2.2, .undef, .undef, .undef, .undef, .undef, .undef, .undef, .undef, .undef, .undef, .undef, .undef, .undef, .undef, .undef, .undef, .undef, .undef, .undef, .undef, .undef, .undef, .undef, .undef, .undef, .undef, .undef, .undef, .undef, .undef, .undef, .undef, .undef, .undef, .undef, .undef, .undef, .undef, .undef, .undef, .undef, .undef, .undef, .undef, .undef, .undef, .undef, .undef, .undef, .undef, .undef, .undef, .undef, .undef, .undef, .undef, .undef], [.tok]⟩
noncomputable def law02_QuoteTells_6_0_x0 {R : Type} (K : Ex → St → Option R) (q0 : Bool) : Option R := K (.exit 0) ⟨[.undef, .undef, .undef, .undef, .undef, .undef, .undef, .undef, .undef, .bool q0, .undef, .undef, .undef, .undef, .undef, .undef, .undef, .undef, .undef, .undef, .undef, .undef, .undef, .undef, .undef, .undef, .undef, .undef, .undef, .undef, .undef, .undef, .undef, .undef, .undef, .undef, .undef, .undef, .undef, .undef, .undef, .undef, .undef, .undef, .undef, .undef, .undef, .undef, .undef, .undef, .undef, .undef, .undef, .undef, .undef, .undef, .undef, .undef, .undef, .undef, .undef, .undef, .undef, .undef, .undef, .undef, .undef, .undef, .undef, .undef, .undef, .undef, .undef, .undef, .undef, .undef, .undef, .undef, .undef, .undef, .undef, .undef, .undef, .undef, .undef, .undef, .undef, .undef, .undef, .undef, .undef, .undef, .undef, .undef, .undef, .undef, .undef, .undef, .undef, .undef, .undef, .undef, .undef, .undef, .undef, .undef, .undef, .undef, .undef, .undef, .undef, .undef, .undef, .undef, .undef, .undef, .undef, .undef, .undef, .undef, .undef, .undef, .undef, .undef, .undef, .undef, .undef, .undef, .undef, .undef, .undef, .undef, .undef, .undef, .undef, .undef, .undef], []⟩
noncomputable def law02_QuoteTells_6_0_x1 {R : Type} (K : Ex → St → Option R) (q0 : Bool) (q1 : Bool) : Option R := K (.ret) ⟨[.undef, .undef, .undef, .undef, .undef, .undef, .undef, .undef, .bool q0, .bool q1, .undef, .undef, .undef, .undef, .undef, .undef, .undef, .undef, .undef, .undef, .undef, .undef, .undef, .undef, .undef, .undef, .undef, .undef, .undef, .undef, .undef, .undef, .undef, .undef, .undef, .undef, .undef, .undef, .undef, .undef, .undef, .undef, .undef, .undef, .undef, .undef, .undef, .undef, .undef, .undef, .undef, .undef, .undef, .undef, .undef, .undef, .undef, .undef, .undef, .undef, .undef, .undef, .undef, .undef, .undef, .undef, .undef, .undef, .undef, .undef, .undef, .undef, .undef, .undef, .undef, .undef, .undef, .undef, .undef, .undef, .undef, .undef, .undef, .undef, .undef, .undef, .undef, .undef, .undef, .undef, .undef, .undef, .undef, .undef, .undef, .undef, .undef, .undef, .undef, .undef, .undef, .undef, .undef, .undef, .undef, .undef, .undef, .undef, .undef, .undef, .undef, .undef, .undef, .undef, .undef, .undef, .undef, .undef, .undef, .undef, .undef, .undef, .undef, .undef, .undef, .undef, .undef, .undef, .undef, .undef, .undef, .undef, .undef, .undef, .undef, .undef, .undef], []⟩
noncomputable def law02_QuoteTells_6_0_s {R : Type} (ref02_Quote : ref02_Quote_ty R) (quote_Quote : quote_Quote_ty R) (quote_Unquote : quote_Unquote_ty R) (ref02_Unquote : ref02_Unquote_ty R) (quote_Whole : quote_Whole_ty R) (ref02_Whole : ref02_Whole_ty R) (K : Ex → St → Option R) (rc : law02_QuoteTells_6_0_D → Option R) (d : law02_QuoteTells_6_0_D) : Option R := law02_QuoteTells_6_0_B ref02_Quote quote_Quote quote_Unquote ref02_Unquote quote_Whole ref02_Whole (fun z0 z1 z2 z3 => rc (z0, z1, z2, z3)) d.1 d.2.1 d.2.2.1 d.2.2.2 (law02_QuoteTells_6_0_x0 K) (law02_QuoteTells_6_0_x1 K)
noncomputable def law02_QuoteTells_6_0_A {R : Type} (K : Ex → St → Option R) (n : Nat) (d : law02_QuoteTells_6_0_D) : Option R := law02_QuoteTells_6_0_L n d.1 d.2.1 d.2.2.1 d.2.2.2 (law02_QuoteTells_6_0_x0 K) (law02_QuoteTells_6_0_x1 K)
abbrev law02_QuoteTells_6_0_p : List Pat := [.leaf (.undef), .leaf (.undef), .leaf (.undef), .leaf (.undef), .leaf (.undef), .leaf (.undef), .leaf (.undef), .leaf (.undef), .leaf (.undef), .leaf (.bool), .leaf (.undef), .leaf (.undef), .leaf (.undef), .leaf (.undef), .leaf (.undef), .leaf (.undef), .leaf (.undef), .leaf (.undef), .leaf (.undef), .leaf (.undef), .leaf (.undef), .leaf (.undef), .leaf (.undef), .leaf (.undef), .leaf (.undef), .leaf (.undef), .leaf (.undef), .leaf (.undef), .leaf (.undef), .leaf (.undef), .leaf (.undef), .leaf (.undef), .leaf (.undef), .leaf (.undef), .leaf (.undef), .leaf (.undef), .leaf (.undef), .leaf (.undef), .leaf (.undef), .leaf (.undef), .leaf (.undef), .leaf (.undef), .leaf (.undef), .leaf (.undef), .leaf (.undef), .leaf (.undef), .leaf (.undef), .leaf (.undef), .leaf (.undef), .leaf (.undef), .leaf (.undef), .leaf (.undef), .leaf (.undef), .leaf (.undef), .leaf (.undef), .leaf (.undef), .leaf (.undef), .leaf (.undef), .leaf (.undef), .leaf (.undef), .leaf (.undef), .leaf (.undef), .leaf (.undef), .leaf (.undef), .leaf (.undef), .leaf (.undef), .leaf (.undef), .leaf (.undef), .leaf (.undef), .leaf (.undef), .leaf (.undef), .leaf (.undef), .leaf (.undef), .leaf (.undef), .leaf (.undef), .leaf (.undef), .leaf (.undef), .leaf (.slo .str 0), .leaf (.int .i64), .leaf (.int .i64), .leaf (.undef), .leaf (.undef), .leaf (.undef), .leaf (.undef), .leaf (.undef), .leaf (.undef), .leaf (.undef), .leaf (.undef), .leaf (.undef), .leaf (.undef), .leaf (.undef), .leaf (.undef), .leaf (.undef), .leaf (.undef), .leaf (.undef), .leaf (.undef), .leaf (.undef), .leaf (.undef), .leaf (.undef), .leaf (.undef), .leaf (.undef), .leaf (.undef), .leaf (.undef), .leaf (.undef), .leaf (.undef), .leaf (.undef), .leaf (.undef), .leaf (.undef), .leaf (.undef), .leaf (.undef), .leaf (.undef), .leaf (.undef), .leaf (.undef), .leaf (.undef), .leaf (.undef), .leaf (.undef), .leaf (.undef), .leaf (.undef), .leaf (.undef), .leaf (.undef), .leaf (.undef), .leaf (.undef), .leaf (.undef), .leaf (.undef), .leaf (.undef), .leaf (.undef), .leaf (.undef), .leaf (.undef), .leaf (.undef), .leaf (.undef), .leaf (.undef), .leaf (.undef), .leaf (.undef), .leaf (.undef), .leaf (.undef), .leaf (.undef), .leaf (.undef)]
abbrev law02_QuoteTells_6_0_q : List HPat := [.tok]
noncomputable def law02_QuoteTells_6_0_f (x : Pat.dens law02_QuoteTells_6_0_p) (y : HPat.dens law02_QuoteTells_6_0_q) : Nat := (List.length x.2.2.2.2.2.2.2.2.2.2.2.2.2.2.2.2.2.2.2.2.2.2.2.2.2.2.2.2.2.2.2.2.2.2.2.2.2.2.2.2.2.2.2.2.2.2.2.2.2.2.2.2.2.2.2.2.2.2.2.2.2.2.2.2.2.2.2.2.2.2.2.2.2.2.2.2.2.1 + Int.natAbs x.2.2.2.2.2.2.2.2.2.2.2.2.2.2.2.2.2.2.2.2.2.2.2.2.2.2.2.2.2.2.2.2.2.2.2.2.2.2.2.2.2.2.2.2.2.2.2.2.2.2.2.2.2.2.2.2.2.2.2.2.2.2.2.2.2.2.2.2.2.2.2.2.2.2.2.2.2.2.1 + Int.natAbs x.2.2.2.2.2.2.2.2.2.2.2.2.2.2.2.2.2.2.2.2.2.2.2.2.2.2.2.2.2.2.2.2.2.2.2.2.2.2.2.2.2.2.2.2.2.2.2.2.2.2.2.2.2.2.2.2.2.2.2.2.2.2.2.2.2.2.2.2.2.2.2.2.2.2.2.2.2.2.2.1 + 64)
noncomputable def law02_QuoteTells_6_0_d (x : Pat.dens law02_QuoteTells_6_0_p) (y : HPat.dens law02_QuoteTells_6_0_q) : law02_QuoteTells_6_0_D := (x.2.2.2.2.2.2.2.2.2.1, x.2.2.2.2.2.2.2.2.2.2.2.2.2.2.2.2.2.2.2.2.2.2.2.2.2.2.2.2.2.2.2.2.2.2.2.2.2.2.2.2.2.2.2.2.2.2.2.2.2.2.2.2.2.2.2.2.2.2.2.2.2.2.2.2.2.2.2.2.2.2.2.2.2.2.2.2.2.1, x.2.2.2.2.2.2.2.2.2.2.2.2.2.2.2.2.2.2.2.2.2.2.2.2.2.2.2.2.2.2.2.2.2.2.2.2.2.2.2.2.2.2.2.2.2.2.2.2.2.2.2.2.2.2.2.2.2.2.2.2.2.2.2.2.2.2.2.2.2.2.2.2.2.2.2.2.2.2.1, x.2.2.2.2.2.2.2.2.2.2.2.2.2.2.2.2.2.2.2.2.2.2.2.2.2.2.2.2.2.2.2.2.2.2.2.2.2.2.2.2.2.2.2.2.2.2.2.2.2.2.2.2.2.2.2.2.2.2.2.2.2.2.2.2.2.2.2.2.2.2.2.2.2.2.2.2.2.2.2.1)
noncomputable def law02_QuoteTells_6_0_rr {R : Type} (L : law02_QuoteTells_6_0_ty R) : Pat.dens law02_QuoteTells_6_0_p → HPat.dens law02_QuoteTells_6_0_q → (Ex → St → Option R) → Option R := fun x y K => L (law02_QuoteTells_6_0_f x y) x.2.2.2.2.2.2.2.2.2.1 x.2.2.2.2.2.2.2.2.2.2.2.2.2.2.2.2.2.2.2.2.2.2.2.2.2.2.2.2.2.2.2.2.2.2.2.2.2.2.2.2.2.2.2.2.2.2.2.2.2.2.2.2.2.2.2.2.2.2.2.2.2.2.2.2.2.2.2.2.2.2.2.2.2.2.2.2.2.1 x.2.2.2.2.2.2.2.2.2.2.2.2.2.2.2.2.2.2.2.2.2.2.2.2.2.2.2.2.2.2.2.2.2.2.2.2.2.2.2.2.2.2.2.2.2.2.2.2.2.2.2.2.2.2.2.2.2.2.2.2.2.2.2.2.2.2.2.2.2.2.2.2.2.2.2.2.2.2.1 x.2.2.2.2.2.2.2.2.2.2.2.2.2.2.2.2.2.2.2.2.2.2.2.2.2.2.2.2.2.2.2.2.2.2.2.2.2.2.2.2.2.2.2.2.2.2.2.2.2.2.2.2.2.2.2.2.2.2.2.2.2.2.2.2.2.2.2.2.2.2.2.2.2.2.2.2.2.2.2.1 (law02_QuoteTells_6_0_x0 K) (law02_QuoteTells_6_0_x1 K)
noncomputable def law02_QuoteTells_T (R : Type) (law02_QuoteTells_6_0_L : law02_QuoteTells_6_0_ty R) : Nat → Option (Hint × LSpec R) := fun i => match i with
  | 6 => some (law02_QuoteTells_6_0_h, (loopBy law02_QuoteTells_6_0_p law02_QuoteTells_6_0_q (law02_QuoteTells_6_0_rr law02_QuoteTells_6_0_L) loopNo))
  | _ => none

theorem law02_QuoteTells_6_0_B_ok {R : Type} (law02_awake : law02_awake_ty R) (law02_Text : law02_Text_ty R) (ref02_Quote : ref02_Quote_ty R) (law02_pick : law02_pick_ty R) (quote_Quote : quote_Quote_ty R) (quote_Unquote : quote_Unquote_ty R) (ref02_Unquote : ref02_Unquote_ty R) (quote_Whole : quote_Whole_ty R) (ref02_Whole : ref02_Whole_ty R) (law02_QuoteTells_6_0_L : law02_QuoteTells_6_0_ty R) (K : Ex → St → Option R) (rc : St → Option R) (d : law02_QuoteTells_6_0_D) : roundOf tt (law02_QuoteTells_E R law02_awake law02_Text ref02_Quote law02_pick quote_Quote quote_Unquote ref02_Unquote quote_Whole ref02_Whole) (law02_QuoteTells_T R law02_QuoteTells_6_0_L) 0 ((loopsOf (codeOf Tryd.f3)).getD 0 .skip) law02_QuoteTells_6_0_h (law02_QuoteTells_6_0_enc d) rc K = law02_QuoteTells_6_0_s ref02_Quote quote_Quote quote_Unquote ref02_Unquote quote_Whole ref02_Whole K (fun d => rc (law02_QuoteTells_6_0_enc d)) d := by kernel_rfl
theorem law02_QuoteTells_6_0_A_succ {R : Type} (K : Ex → St → Option R) (n : Nat) (d : law02_QuoteTells_6_0_D) : law02_QuoteTells_6_0_A K (n + 1) d = law02_QuoteTells_6_0_s ref02_Quote quote_Quote quote_Unquote ref02_Unquote quote_Whole ref02_Whole K (law02_QuoteTells_6_0_A K n) d := by kernel_rfl
theorem law02_QuoteTells_6_0_A_zero {R : Type} (K : Ex → St → Option R) (d : law02_QuoteTells_6_0_D) : law02_QuoteTells_6_0_A K 0 d = none := by kernel_rfl
theorem law02_QuoteTells_6_0_e_ok (x : Pat.dens law02_QuoteTells_6_0_p) (y : HPat.dens law02_QuoteTells_6_0_q) : (⟨Pat.encL law02_QuoteTells_6_0_p x, HPat.encL law02_QuoteTells_6_0_q y⟩ : St) = law02_QuoteTells_6_0_enc (law02_QuoteTells_6_0_d x y) := by kernel_rfl
theorem law02_QuoteTells_6_0_r_ok {R : Type} (x : Pat.dens law02_QuoteTells_6_0_p) (y : HPat.dens law02_QuoteTells_6_0_q) (K : Ex → St → Option R) : law02_QuoteTells_6_0_rr (law02_QuoteTells_6_0_L) x y K = law02_QuoteTells_6_0_A K (law02_QuoteTells_6_0_f x y) (law02_QuoteTells_6_0_d x y) := by kernel_rfl
theorem law02_QuoteTells_6_0_ok {R : Type} (other : LSpec R) (ho : LsOk tt (law02_QuoteTells_E R law02_awake law02_Text ref02_Quote law02_pick quote_Quote quote_Unquote ref02_Unquote quote_Whole ref02_Whole) (law02_QuoteTells_T R law02_QuoteTells_6_0_L) 0 ((loopsOf (codeOf Tryd.f3)).getD 0 .skip) law02_QuoteTells_6_0_h other) : LsOk tt (law02_QuoteTells_E R law02_awake law02_Text ref02_Quote law02_pick quote_Quote quote_Unquote ref02_Unquote quote_Whole ref02_Whole) (law02_QuoteTells_T R law02_QuoteTells_6_0_L) 0 ((loopsOf (codeOf Tryd.f3)).getD 0 .skip) law02_QuoteTells_6_0_h (loopBy law02_QuoteTells_6_0_p law02_QuoteTells_6_0_q (law02_QuoteTells_6_0_rr (law02_QuoteTells_6_0_L)) other) :=
  loopBy_tie (A := law02_QuoteTells_6_0_A) ho (loop_tie law02_QuoteTells_6_0_enc (law02_QuoteTells_6_0_s ref02_Quote quote_Quote quote_Unquote ref02_Unquote quote_Whole ref02_Whole) (law02_QuoteTells_6_0_A) (law02_QuoteTells_6_0_A_zero) (law02_QuoteTells_6_0_B_ok law02_awake law02_Text ref02_Quote law02_pick quote_Quote quote_Unquote ref02_Unquote quote_Whole ref02_Whole law02_QuoteTells_6_0_L) (law02_QuoteTells_6_0_A_succ)) law02_QuoteTells_6_0_f law02_QuoteTells_6_0_d law02_QuoteTells_6_0_e_ok (law02_QuoteTells_6_0_r_ok)

noncomputable def law02_QuoteTells_X {R : Type} (law02_awake : law02_awake_ty R) (law02_Text : law02_Text_ty R) (ref02_Quote : ref02_Quote_ty R) (law02_pick : law02_pick_ty R) (law02_QuoteTells_6_0_L : law02_QuoteTells_6_0_ty R) (x1 : Str) (x2 : List Int) (x3 : Int) (x4 : Str) (k0 : Bool → Option R) : Option R :=
  law02_awake (fun y5 => law02_Text x2 (fun y6 => ref02_Quote y6 (fun y7 y8 => law02_pick x3 (IntKind.i64.wrap ((y7.length : Int) + 1)) (fun y9 => chk (decide (1 + x1.length ≤ 9223372036854775807)) (chk (decide (1 + x1.length ≤ 9223372036854775807)) (chk (decide ((([34] : Str) ++ x1).length + 1 ≤ 9223372036854775807)) (chk (decide (y7.length + x4.length ≤ 9223372036854775807)) (chk (decide ((0 : Int) ≤ y9) && decide (y9 ≤ y7.length)) (chk (decide ((0 : Int) ≤ y9)) (chk (decide (((y7.drop 0).take (y9.toNat - 0)).length + x4.length ≤ 9223372036854775807)) (chk (decide ((0 : Int) ≤ (y7.length : Int)) && decide ((y7.length : Int) ≤ y7.length)) (chk (decide ((0 : Int) ≤ (min (IntKind.i64.wrap (y9 + (x4.length : Int))) (y7.length : Int))) && decide ((min (IntKind.i64.wrap (y9 + (x4.length : Int))) (y7.length : Int)) ≤ (y7.length : Int))) (chk (decide ((((y7.drop 0).take (y9.toNat - 0)) ++ x4).length + ((y7.drop (min (IntKind.i64.wrap (y9 + (x4.length : Int))) (y7.length : Int)).toNat).take ((y7.length : Int).toNat - (min (IntKind.i64.wrap (y9 + (x4.length : Int))) (y7.length : Int)).toNat)).length ≤ 9223372036854775807)) (chk (decide ((0 : Int) ≤ y9) && decide (y9 ≤ y7.length)) (chk (decide ((0 : Int) ≤ y9)) (chk (decide ((0 : Int) ≤ y9) && decide (y9 ≤ y7.length)) (chk (decide ((0 : Int) ≤ y9)) (chk (decide (((y7.drop 0).take (y9.toNat - 0)).length + x4.length ≤ 9223372036854775807)) (chk (decide ((0 : Int) ≤ (y7.length : Int)) && decide ((y7.length : Int) ≤ y7.length)) (chk (decide ((0 : Int) ≤ y9) && decide (y9 ≤ (y7.length : Int))) (chk (decide ((((y7.drop 0).take (y9.toNat - 0)) ++ x4).length + ((y7.drop y9.toNat).take ((y7.length : Int).toNat - y9.toNat)).length ≤ 9223372036854775807)) (law02_QuoteTells_6_0_L (List.length ([x1, (([34] : Str) ++ x1), ((([34] : Str) ++ x1) ++ ([34] : Str)), y7, (y7 ++ x4), ((((y7.drop 0).take (y9.toNat - 0)) ++ x4) ++ ((y7.drop (min (IntKind.i64.wrap (y9 + (x4.length : Int))) (y7.length : Int)).toNat).take ((y7.length : Int).toNat - (min (IntKind.i64.wrap (y9 + (x4.length : Int))) (y7.length : Int)).toNat))), ((y7.drop 0).take (y9.toNat - 0)), ((((y7.drop 0).take (y9.toNat - 0)) ++ x4) ++ ((y7.drop y9.toNat).take ((y7.length : Int).toNat - y9.toNat))), y6] : List Str) + Int.natAbs 9 + Int.natAbs 0 + 64) y5 ([x1, (([34] : Str) ++ x1), ((([34] : Str) ++ x1) ++ ([34] : Str)), y7, (y7 ++ x4), ((((y7.drop 0).take (y9.toNat - 0)) ++ x4) ++ ((y7.drop (min (IntKind.i64.wrap (y9 + (x4.length : Int))) (y7.length : Int)).toNat).take ((y7.length : Int).toNat - (min (IntKind.i64.wrap (y9 + (x4.length : Int))) (y7.length : Int)).toNat))), ((y7.drop 0).take (y9.toNat - 0)), ((((y7.drop 0).take (y9.toNat - 0)) ++ x4) ++ ((y7.drop y9.toNat).take ((y7.length : Int).toNat - y9.toNat))), y6] : List Str) 9 0 (fun y27 => k0 y27) (fun y28 y29 => k0 y28)))))))))))))))))))))))
noncomputable def law02_QuoteTells {R : Type} : law02_QuoteTells_ty R := fun x1 x2 x3 x4 k0 => law02_QuoteTells_X law02_awake law02_Text ref02_Quote law02_pick law02_QuoteTells_6_0_L x1 x2 x3 x4 k0
theorem law02_QuoteTells_ok {R : Type} (law02_awake : law02_awake_ty R) (law02_Text : law02_Text_ty R) (ref02_Quote : ref02_Quote_ty R) (law02_pick : law02_pick_ty R) (quote_Quote : quote_Quote_ty R) (quote_Unquote : quote_Unquote_ty R) (ref02_Unquote : ref02_Unquote_ty R) (quote_Whole : quote_Whole_ty R) (ref02_Whole : ref02_Whole_ty R) (law02_QuoteTells_6_0_L : law02_QuoteTells_6_0_ty R) (x1 : Str) (x2 : List Int) (x3 : Int) (x4 : Str) (k : V → Heap → Option R) : funK tt (law02_QuoteTells_E R law02_awake law02_Text ref02_Quote law02_pick quote_Quote quote_Unquote ref02_Unquote quote_Whole ref02_Whole) (law02_QuoteTells_T R law02_QuoteTells_6_0_L) false Tryd.f3 (codeOf Tryd.f3) [.str x1, .sl (.int .i64) x2 .no, .int .i64 x3, .str x4] [] k =
    law02_QuoteTells_X law02_awake law02_Text ref02_Quote law02_pick law02_QuoteTells_6_0_L x1 x2 x3 x4 (fun q0 => k (.bool q0) []) := by kernel_rfl
theorem law02_QuoteTells_loops (R : Type) : ∀ a ∈ loopsOf (codeOf Tryd.f3), LoopOk tt (law02_QuoteTells_E R law02_awake law02_Text ref02_Quote law02_pick quote_Quote quote_Unquote ref02_Unquote quote_Whole ref02_Whole) (law02_QuoteTells_T R law02_QuoteTells_6_0_L) 0 a := by
  refine loops_ok 1 (by kernel_rfl) fun i hi => ?_
  match i, hi with
  | 0, _ => exact loopOk_some (by kernel_rfl) (law02_QuoteTells_6_0_ok _ loopNo_ok)
  | n + 1, hi => omega
theorem law02_QuoteTells_S_ok (R : Type) (other : Yard.Spec R) (ho : Yard.Spec.Ok Tryd.prog 3 other) : Yard.Spec.Ok Tryd.prog 3 (specBy law02_QuoteTells_p law02_QuoteTells_q (law02_QuoteTells_rr law02_QuoteTells) other) :=
  specBy_ok ho (funK_sound TT mixed (law02_QuoteTells_EOk R) (keep := false) rfl rfl rfl rfl 0 (law02_QuoteTells_loops R)) fun (x : Pat.dens law02_QuoteTells_p) (y : HPat.dens law02_QuoteTells_q) k => law02_QuoteTells_ok law02_awake law02_Text ref02_Quote law02_pick quote_Quote quote_Unquote ref02_Unquote quote_Whole ref02_Whole law02_QuoteTells_6_0_L x.1 x.2.1 x.2.2.1 x.2.2.2.1 k

/-! ### humpyard/humpyardlaw02.QuoteBack -/
abbrev law02_QuoteBack_ty (R : Type) : Type := Str → (List Int) → Str → (Bool → Option R) → Option R
abbrev law02_QuoteBack_p : List Pat := [.leaf (.str), .leaf (.sl (.int .i64)), .leaf (.str)]
abbrev law02_QuoteBack_q : List HPat := []
noncomputable def law02_QuoteBack_rr {R : Type} (fn : law02_QuoteBack_ty R) : Pat.dens law02_QuoteBack_p → HPat.dens law02_QuoteBack_q → (V → Heap → Option R) → Option R := fun x y k => fn x.1 x.2.1 x.2.2.1 (fun q0 => k (.bool q0) [])
abbrev law02_QuoteBack_3_0_ty (R : Type) : Type := Nat → (List Int) → Str → Bool → (List Str) → Int → Int → ((List Int) → Bool → Option R) → ((List Int) → Bool → Bool → Option R) → Option R
noncomputable def law02_QuoteBack_E (R : Type) (law02_awake : law02_awake_ty R) (law02_Text : law02_Text_ty R) (quote_Quote : quote_Quote_ty R) (quote_Unquote : quote_Unquote_ty R) (quote_Whole : quote_Whole_ty R) : Env R := fun i => match i with
  | 17 => some (true, (specBy law02_awake_p law02_awake_q (law02_awake_rr law02_awake) specNo))
  | 18 => some (true, (specBy law02_Text_p law02_Text_q (law02_Text_rr law02_Text) specNo))
  | 21 => some (true, (specBy quote_Quote_p quote_Quote_q (quote_Quote_rr quote_Quote) specNo))
  | 22 => some (true, (specBy quote_Unquote_p quote_Unquote_q (quote_Unquote_rr quote_Unquote) specNo))
  | 24 => some (true, (specBy quote_Whole_p quote_Whole_q (quote_Whole_rr quote_Whole) specNo))
  | _ => none
theorem law02_QuoteBack_EOk (R : Type) : EOk Tryd.prog (law02_QuoteBack_E R law02_awake law02_Text quote_Quote quote_Unquote quote_Whole) := by
  intro i b sp h
  unfold law02_QuoteBack_E at h
  split at h
  · cases h; exact ⟨(law02_awake_S_ok R _ (specNo_ok _)), fun h => nomatch h⟩
  · cases h; exact ⟨(law02_Text_S_ok R _ (specNo_ok _)), fun h => nomatch h⟩
  · cases h; exact ⟨(quote_Quote_S_ok R _ (specNo_ok _)), fun h => nomatch h⟩
  · cases h; exact ⟨(quote_Unquote_S_ok R _ (specNo_ok _)), fun h => nomatch h⟩
  · cases h; exact ⟨(quote_Whole_S_ok R _ (specNo_ok _)), fun h => nomatch h⟩
  · cases h

noncomputable def law02_QuoteBack_3_0_B {R : Type} (quote_Quote : quote_Quote_ty R) (quote_Unquote : quote_Unquote_ty R) (quote_Whole : quote_Whole_ty R) (rec' : (List Int) → Str → Bool → (List Str) → Int → Int → Option R) (x6 : List Int) (x7 : Str) (x8 : Bool) (x9 : List Str) (x10 : Int) (x11 : Int) (e0 : (List Int) → Bool → Option R) (e1 : (List Int) → Bool → Bool → Option R) : Option R :=
  bif (decide (x11 < x10)) then (chk (decide ((0 : Int) ≤ x11) && decide (x11 < x9.length)) (quote_Quote (x9.getD x11.toNat (Ty.dflt .str)) (fun y12 y13 => quote_Whole (x9.getD x11.toNat (Ty.dflt .str)) (fun y14 => bif (!(y13 == y14)) then (e1 x6 false x8) else (bif (!(y13 == (!(y12 == ([] : Str))))) then (e1 x6 false x8) else (bif (!y13) then (rec' x6 x7 x8 x9 x10 (IntKind.i64.wrap (x11 + 1))) else (chk (decide (y12.length + x7.length ≤ 9223372036854775807)) (quote_Unquote (y12 ++ x7) (fun y16 y17 y18 => bif (!y18) then (e1 x6 false x8) else (bif (!(y16 == (x9.getD x11.toNat (Ty.dflt .str)))) then (e1 x6 false x8) else (bif (y17 != (y12.length : Int)) then (e1 x6 false x8) else (rec' x6 x7 x8 x9 x10 (IntKind.i64.wrap (x11 + 1)))))))))))))) else (e0 x6 x8)
noncomputable def law02_QuoteBack_3_0_L {R : Type} : law02_QuoteBack_3_0_ty R
  | 0, _, _, _, _, _, _, _, _ => none
  | n + 1, x0', x1', x2', x3', x4', x5', e0, e1 => law02_QuoteBack_3_0_B quote_Quote quote_Unquote quote_Whole (fun x0' x1' x2' x3' x4' x5' => law02_QuoteBack_3_0_L n x0' x1' x2' x3' x4' x5' e0 e1) x0' x1' x2' x3' x4' x5' e0 e1
noncomputable def law02_QuoteBack_3_0_h : Hint := { live := [1, 2, 7, 19, 20, 21], own := [], rows := [], cells := [], drop := [], out := [1, 6, 7] }
abbrev law02_QuoteBack_3_0_D : Type := (List Int) × Str × Bool × (List Str) × Int × Int
noncomputable def law02_QuoteBack_3_0_enc : law02_QuoteBack_3_0_D → St := fun d => ⟨[.undef, .sl (.int .i64) d.1 .no, .str d.2.1, .undef, .undef, .undef, .undef, .bool d.2.2.1, .undef, .undef, .undef, .undef, .undef, .undef, .undef, .undef, .undef, .undef, .undef, .sl .str d.2.2.2.1 (.own 0), .int .i64 d.2.2.2.2.1, .int .i64 d.2.2.2.2.2, .undef, .undef, .undef, .undef, .undef, .undef, .undef, .undef, .undef, .undef, .undef, .undef, .undef, .undef, .undef, .undef, .undef, .undef, .undef, .undef, .undef, .undef, .undef, .undef, .undef, .undef, .undef, .undef, .undef, .undef, .undef, .undef, .undef, .undef, .undef, .undef, .undef, .undef, .undef, .undef, .undef, .undef, .undef, .undef, .undef, .undef, .undef, .undef], [.tok]⟩
noncomputable def law02_QuoteBack_3_0_x0 {R : Type} (K : Ex → St → Option R) (q0 : List Int) (q1 : Bool) : Option R := K (.exit 0) ⟨[.undef, .sl (.int .i64) q0 .no, .undef, .undef, .undef, .undef, .undef, .bool q1, .undef, .undef, .undef, .undef, .undef, .undef, .undef, .undef, .undef, .undef, .undef, .undef, .undef, .undef, .undef, .undef, .undef, .undef, .undef, .undef, .undef, .undef, .undef, .undef, .undef, .undef, .undef, .undef, .undef, .undef, .undef, .undef, .undef, .undef, .undef, .undef, .undef, .undef, .undef, .undef, .undef, .undef, .undef, .undef, .undef, .undef, .undef, .undef, .undef, .undef, .undef, .undef, .undef, .undef, .undef, .undef, .undef, .undef, .undef, .undef, .undef, .undef], []⟩
noncomputable def law02_QuoteBack_3_0_x1 {R : Type} (K : Ex → St → Option R) (q0 : List Int) (q1 : Bool) (q2 : Bool) : Option R := K (.ret) ⟨[.undef, .sl (.int .i64) q0 .no, .undef, .undef, .undef, .undef, .bool q1, .bool q2, .undef, .undef, .undef, .undef, .undef, .undef, .undef, .undef, .undef, .undef, .undef, .undef, .undef, .undef, .undef, .undef, .undef, .undef, .undef, .undef, .undef, .undef, .undef, .undef, .undef, .undef, .undef, .undef, .undef, .undef, .undef, .undef, .undef, .undef, .undef, .undef, .undef, .undef, .undef, .undef, .undef, .undef, .undef, .undef, .undef, .undef, .undef, .undef, .undef, .undef, .undef, .undef, .undef, .undef, .undef, .undef, .undef, .undef, .undef, .undef, .undef, .undef], []⟩
noncomputable def law02_QuoteBack_3_0_s {R : Type} (quote_Quote : quote_Quote_ty R) (quote_Unquote : quote_Unquote_ty R) (quote_Whole : quote_Whole_ty R) (K : Ex → St → Option R) (rc : law02_QuoteBack_3_0_D → Option R) (d : law02_QuoteBack_3_0_D) : Option R := law02_QuoteBack_3_0_B quote_Quote quote_Unquote quote_Whole (fun z0 z1 z2 z3 z4 z5 => rc (z0, z1, z2, z3, z4, z5)) d.1 d.2.1 d.2.2.1 d.2.2.2.1 d.2.2.2.2.1 d.2.2.2.2.2 (law02_QuoteBack_3_0_x0 K) (law02_QuoteBack_3_0_x1 K)
noncomputable def law02_QuoteBack_3_0_A {R : Type} (K : Ex → St → Option R) (n : Nat) (d : law02_QuoteBack_3_0_D) : Option R := law02_QuoteBack_3_0_L n d.1 d.2.1 d.2.2.1 d.2.2.2.1 d.2.2.2.2.1 d.2.2.2.2.2 (law02_QuoteBack_3_0_x0 K) (law02_QuoteBack_3_0_x1 K)
abbrev law02_QuoteBack_3_0_p : List Pat := [.leaf (.undef), .leaf (.sl (.int .i64)), .leaf (.str), .leaf (.undef), .leaf (.undef), .leaf (.undef), .leaf (.undef), .leaf (.bool), .leaf (.undef), .leaf (.undef), .leaf (.undef), .leaf (.undef), .leaf (.undef), .leaf (.undef), .leaf (.undef), .leaf (.undef), .leaf (.undef), .leaf (.undef), .leaf (.undef), .leaf (.slo .str 0), .leaf (.int .i64), .leaf (.int .i64), .leaf (.undef), .leaf (.undef), .leaf (.undef), .leaf (.undef), .leaf (.undef), .leaf (.undef), .leaf (.undef), .leaf (.undef), .leaf (.undef), .leaf (.undef), .leaf (.undef), .leaf (.undef), .leaf (.undef), .leaf (.undef), .leaf (.undef), .leaf (.undef), .leaf (.undef), .leaf (.undef), .leaf (.undef), .leaf (.undef), .leaf (.undef), .leaf (.undef), .leaf (.undef), .leaf (.undef), .leaf (.undef), .leaf (.undef), .leaf (.undef), .leaf (.undef), .leaf (.undef), .leaf (.undef), .leaf (.undef), .leaf (.undef), .leaf (.undef), .leaf (.undef), .leaf (.undef), .leaf (.undef), .leaf (.undef), .leaf (.undef), .leaf (.undef), .leaf (.undef), .leaf (.undef), .leaf (.undef), .leaf (.undef), .leaf (.undef), .leaf (.undef), .leaf (.undef), .leaf (.undef), .leaf (.undef)]
abbrev law02_QuoteBack_3_0_q : List HPat := [.tok]
noncomputable def law02_QuoteBack_3_0_f (x : Pat.dens law02_QuoteBack_3_0_p) (y : HPat.dens law02_QuoteBack_3_0_q) : Nat := (List.length x.2.1 + List.length x.2.2.1 + List.length x.2.2.2.2.2.2.2.2.2.2.2.2.2.2.2.2.2.2.2.1 + Int.natAbs x.2.2.2.2.2.2.2.2.2.2.2.2.2.2.2.2.2.2.2.2.1 + Int.natAbs x.2.2.2.2.2.2.2.2.2.2.2.2.2.2.2.2.2.2.2.2.2.1 + 64)
noncomputable def law02_QuoteBack_3_0_d (x : Pat.dens law02_QuoteBack_3_0_p) (y : HPat.dens law02_QuoteBack_3_0_q) : law02_QuoteBack_3_0_D := (x.2.1, x.2.2.1, x.2.2.2.2.2.2.2.1, x.2.2.2.2.2.2.2.2.2.2.2.2.2.2.2.2.2.2.2.1, x.2.2.2.2.2.2.2.2.2.2.2.2.2.2.2.2.2.2.2.2.1, x.2.2.2.2.2.2.2.2.2.2.2.2.2.2.2.2.2.2.2.2.2.1)
noncomputable def law02_QuoteBack_3_0_rr {R : Type} (L : law02_QuoteBack_3_0_ty R) : Pat.dens law02_QuoteBack_3_0_p → HPat.dens law02_QuoteBack_3_0_q → (Ex → St → Option R) → Option R := fun x y K => L (law02_QuoteBack_3_0_f x y) x.2.1 x.2.2.1 x.2.2.2.2.2.2.2.1 x.2.2.2.2.2.2.2.2.2.2.2.2.2.2.2.2.2.2.2.1 x.2.2.2.2.2.2.2.2.2.2.2.2.2.2.2.2.2.2.2.2.1 x.2.2.2.2.2.2.2.2.2.2.2.2.2.2.2.2.2.2.2.2.2.1 (law02_QuoteBack_3_0_x0 K) (law02_QuoteBack_3_0_x1 K)
noncomputable def law02_QuoteBack_T (R : Type) (law02_QuoteBack_3_0_L : law02_QuoteBack_3_0_ty R) : Nat → Option (Hint × LSpec R) := fun i => match i with
  | 3 => some (law02_QuoteBack_3_0_h, (loopBy law02_QuoteBack_3_0_p law02_QuoteBack_3_0_q (law02_QuoteBack_3_0_rr law02_QuoteBack_3_0_L) loopNo))
  | _ => none

theorem law02_QuoteBack_3_0_B_ok {R : Type} (law02_awake : law02_awake_ty R) (law02_Text : law02_Text_ty R) (quote_Quote : quote_Quote_ty R) (quote_Unquote : quote_Unquote_ty R) (quote_Whole : quote_Whole_ty R) (law02_QuoteBack_3_0_L : law02_QuoteBack_3_0_ty R) (K : Ex → St → Option R) (rc : St → Option R) (d : law02_QuoteBack_3_0_D) : roundOf tt (law02_QuoteBack_E R law02_awake law02_Text quote_Quote quote_Unquote quote_Whole) (law02_QuoteBack_T R law02_QuoteBack_3_0_L) 0 ((loopsOf (codeOf Tryd.f4)).getD 0 .skip) law02_QuoteBack_3_0_h (law02_QuoteBack_3_0_enc d) rc K = law02_QuoteBack_3_0_s quote_Quote quote_Unquote quote_Whole K (fun d => rc (law02_QuoteBack_3_0_enc d)) d := by kernel_rfl
theorem law02_QuoteBack_3_0_A_succ {R : Type} (K : Ex → St → Option R) (n : Nat) (d : law02_QuoteBack_3_0_D) : law02_QuoteBack_3_0_A K (n + 1) d = law02_QuoteBack_3_0_s quote_Quote quote_Unquote quote_Whole K (law02_QuoteBack_3_0_A K n) d := by kernel_rfl
theorem law02_QuoteBack_3_0_A_zero {R : Type} (K : Ex → St → Option R) (d : law02_QuoteBack_3_0_D) : law02_QuoteBack_3_0_A K 0 d = none := by kernel_rfl
theorem law02_QuoteBack_3_0_e_ok (x : Pat.dens law02_QuoteBack_3_0_p) (y : HPat.dens law02_QuoteBack_3_0_q) : (⟨Pat.encL law02_QuoteBack_3_0_p x, HPat.encL law02_QuoteBack_3_0_q y⟩ : St) = law02_QuoteBack_3_0_enc (law02_QuoteBack_3_0_d x y) := by kernel_rfl
theorem law02_QuoteBack_3_0_r_ok {R : Type} (x : Pat.dens law02_QuoteBack_3_0_p) (y : HPat.dens law02_QuoteBack_3_0_q) (K : Ex → St → Option R) : law02_QuoteBack_3_0_rr (law02_QuoteBack_3_0_L) x y K = law02_QuoteBack_3_0_A K (law02_QuoteBack_3_0_f x y) (law02_QuoteBack_3_0_d x y) := by kernel_rfl
theorem law02_QuoteBack_3_0_ok {R : Type} (other : LSpec R) (ho : LsOk tt (law02_QuoteBack_E R law02_awake law02_Text quote_Quote quote_Unquote quote_Whole) (law02_QuoteBack_T R law02_QuoteBack_3_0_L) 0 ((loopsOf (codeOf Tryd.f4)).getD 0 .skip) law02_QuoteBack_3_0_h other) : LsOk tt (law02_QuoteBack_E R law02_awake law02_Text quote_Quote quote_Unquote quote_Whole) (law02_QuoteBack_T R law02_QuoteBack_3_0_L) 0 ((loopsOf (codeOf Tryd.f4)).getD 0 .skip) law02_QuoteBack_3_0_h (loopBy law02_QuoteBack_3_0_p law02_QuoteBack_3_0_q (law02_QuoteBack_3_0_rr (law02_QuoteBack_3_0_L)) other) :=
  loopBy_tie (A := law02_QuoteBack_3_0_A) ho (loop_tie law02_QuoteBack_3_0_enc (law02_QuoteBack_3_0_s quote_Quote quote_Unquote quote_Whole) (law02_QuoteBack_3_0_A) (law02_QuoteBack_3_0_A_zero) (law02_QuoteBack_3_0_B_ok law02_awake law02_Text quote_Quote quote_Unquote quote_Whole law02_QuoteBack_3_0_L) (law02_QuoteBack_3_0_A_succ)) law02_QuoteBack_3_0_f law02_QuoteBack_3_0_d law02_QuoteBack_3_0_e_ok (law02_QuoteBack_3_0_r_ok)

noncomputable def law02_QuoteBack_X {R : Type} (law02_awake : law02_awake_ty R) (law02_Text : law02_Text_ty R) (quote_Whole : quote_Whole_ty R) (law02_QuoteBack_3_0_L : law02_QuoteBack_3_0_ty R) (x1 : Str) (x2 : List Int) (x3 : Str) (k0 : Bool → Option R) : Option R :=
  law02_awake (fun y4 => law02_Text x2 (fun y5 => law02_QuoteBack_3_0_L (List.length x2 + List.length x3 + List.length ([x1, y5] : List Str) + Int.natAbs 2 + Int.natAbs 0 + 64) x2 x3 y4 ([x1, y5] : List Str) 2 0 (fun y20 y21 => bif y21 then (law02_Text y20 (fun y25 => quote_Whole y25 (fun y26 => k0 y26))) else (k0 false)) (fun y22 y23 y24 => k0 y23)))
noncomputable def law02_QuoteBack {R : Type} : law02_QuoteBack_ty R := fun x1 x2 x3 k0 => law02_QuoteBack_X law02_awake law02_Text quote_Whole law02_QuoteBack_3_0_L x1 x2 x3 k0
theorem law02_QuoteBack_ok {R : Type} (law02_awake : law02_awake_ty R) (law02_Text : law02_Text_ty R) (quote_Quote : quote_Quote_ty R) (quote_Unquote : quote_Unquote_ty R) (quote_Whole : quote_Whole_ty R) (law02_QuoteBack_3_0_L : law02_QuoteBack_3_0_ty R) (x1 : Str) (x2 : List Int) (x3 : Str) (k : V → Heap → Option R) : funK tt (law02_QuoteBack_E R law02_awake law02_Text quote_Quote quote_Unquote quote_Whole) (law02_QuoteBack_T R law02_QuoteBack_3_0_L) false Tryd.f4 (codeOf Tryd.f4) [.str x1, .sl (.int .i64) x2 .no, .str x3] [] k =
    law02_QuoteBack_X law02_awake law02_Text quote_Whole law02_QuoteBack_3_0_L x1 x2 x3 (fun q0 => k (.bool q0) []) := by kernel_rfl
theorem law02_QuoteBack_loops (R : Type) : ∀ a ∈ loopsOf (codeOf Tryd.f4), LoopOk tt (law02_QuoteBack_E R law02_awake law02_Text quote_Quote quote_Unquote quote_Whole) (law02_QuoteBack_T R law02_QuoteBack_3_0_L) 0 a := by
  refine loops_ok 1 (by kernel_rfl) fun i hi => ?_
  match i, hi with
  | 0, _ => exact loopOk_some (by kernel_rfl) (law02_QuoteBack_3_0_ok _ loopNo_ok)
  | n + 1, hi => omega
theorem law02_QuoteBack_S_ok (R : Type) (other : Yard.Spec R) (ho : Yard.Spec.Ok Tryd.prog 4 other) : Yard.Spec.Ok Tryd.prog 4 (specBy law02_QuoteBack_p law02_QuoteBack_q (law02_QuoteBack_rr law02_QuoteBack) other) :=
  specBy_ok ho (funK_sound TT mixed (law02_QuoteBack_EOk R) (keep := false) rfl rfl rfl rfl 0 (law02_QuoteBack_loops R)) fun (x : Pat.dens law02_QuoteBack_p) (y : HPat.dens law02_QuoteBack_q) k => law02_QuoteBack_ok law02_awake law02_Text quote_Quote quote_Unquote quote_Whole law02_QuoteBack_3_0_L x.1 x.2.1 x.2.2.1 k

end Go.Proofs.YtifgegmnngfckaaDoor

/-
  QuoteBack and QuoteCut. Own work.
-/
set_option linter.unusedVariables false
set_option maxRecDepth 100000
namespace Go.Proofs.YtifgegmnngfckaaDoor
open Go Go.Yard Go.Lib

theorem whole_eq {R : Type} (x : Str) (f : Bool → Option R) : quote_Whole x f = f (validS x) := rfl

/-- QUOTE of any text. -/
theorem quote_any {R : Type} (s : Str) (hl : s.length ≤ 10000000000) : (∃ rs : List Nat, (∀ c ∈ rs, vr c) ∧ rs.length ≤ s.length ∧ s = encL rs ∧ validS s = true ∧ ∀ k : Str → Bool → Option R, quote_Quote s k = k (qt rs) true) ∨
    (validS s = false ∧ ∀ k : Str → Bool → Option R, quote_Quote s k = k [] false) := by
  cases h : validS s with
  | true =>
    obtain ⟨rs, hr, rfl⟩ := whole_iff.1 h
    have := encL_count rs hr
    exact .inl ⟨rs, hr, this.1, rfl, rfl, fun k => quote_ok rs hr (by omega) k⟩
  | false => exact .inr ⟨rfl, fun k => quote_bad s h k⟩

theorem qt_len (rs : List Nat) : (qt rs).length = (qcL rs).length + 2 := by unfold qt; simp

theorem back_round {R : Type} {raw : List Int} {more : Str} (hm : more.length ≤ 1048576) {l : List Str} (hlen : l.length ≤ 2) {i : Nat} (hi : i < l.length) {s : Str} (hg : l[i]? = some s) (hs : s.length ≤ 1048576) (y : Bool)
    (rec' : (List Int) → Str → Bool → (List Str) → Int → Int → Option R) (e0 : (List Int) → Bool → Option R) (e1 : (List Int) → Bool → Bool → Option R) :
    law02_QuoteBack_3_0_B quote_Quote quote_Unquote quote_Whole rec' raw more y l (l.length : Int) (i : Int) e0 e1 = rec' raw more y l (l.length : Int) ((i + 1 : Nat) : Int) := by
  unfold law02_QuoteBack_3_0_B
  have hget : l.getD (i : Int).toNat (Ty.dflt .str) = s := by
    rw [Int.toNat_natCast]
    show (l[i]?).getD _ = s
    rw [hg]
    rfl
  have hw : IntKind.i64.wrap ((i : Int) + 1) = ((i + 1 : Nat) : Int) := by rw [wrap_id (by omega) (by omega)]; omega
  rw [dtrue (show (i : Int) < (l.length : Int) by omega), cond_true, chk_pos (by rw [dtrue (show (0 : Int) ≤ (i : Int) by omega)]; rfl), hget, hw]
  rcases quote_any (R := R) s (by omega) with ⟨rs, hr, hrl, hse, hv, hq⟩ | ⟨hv, hq⟩
  · have h1 := qcL_count rs hr
    have h2 := qt_len rs
    have hne : (qt rs == ([] : Str)) = false := rfl
    rw [hq, whole_eq, hv, hne]
    simp only [BEq.rfl, Bool.not_true, Bool.not_false, cond_false]
    rw [chk_pos (dtrue (by omega)), unquote_ok _ (by rw [List.length_append]; omega), uqS_qt rs hr more]
    simp only [Bool.not_true, cond_false]
    rw [← hse]
    have e : IntKind.i64.wrap (((qt rs ++ more).length : Int) - (more.length : Int)) = ((qt rs).length : Int) := by
      rw [List.length_append, wrap_id (by omega) (by omega)]; omega
    rw [e]
    simp
  · rw [hq, whole_eq, hv]
    rfl

theorem quoteBack_true {R : Type} (s : Str) (raw : List Int) (more : Str) (hs : Small 1048576 (.str s)) (hr : Small 1048576 (.sl (.int .i64) raw .no)) (hm : Small 1048576 (.str more)) (k : Bool → Option R) : law02_QuoteBack s raw more k = k true := by
  obtain ⟨rs, h1, h2, h3⟩ := text_ok (R := R) raw (small_i64 hr).2
  have hsl := hs.str_inv
  have hml := hm.str_inv
  have e : law02_QuoteBack s raw more k = law02_QuoteBack_X law02_awake law02_Text quote_Whole law02_QuoteBack_3_0_L s raw more k := rfl
  rw [e]
  unfold law02_QuoteBack_X
  rw [awake02]
  simp only [h3]
  have hw : validS (encL rs) = true := whole_iff.2 ⟨rs, h1, rfl⟩
  have key : ∀ (F : Nat) (e0 : List Int → Bool → Option R) (e1 : List Int → Bool → Bool → Option R), law02_QuoteBack_3_0_L (F + 3) raw more true [s, encL rs] 2 0 e0 e1 = e0 raw true := by
    intro F e0 e1
    have s1 : law02_QuoteBack_3_0_L (F + 3) raw more true [s, encL rs] 2 0 e0 e1 = law02_QuoteBack_3_0_B quote_Quote quote_Unquote quote_Whole (fun x0' x1' x2' x3' x4' x5' => law02_QuoteBack_3_0_L (F + 2) x0' x1' x2' x3' x4' x5' e0 e1) raw more true [s, encL rs] (([s, encL rs] : List Str).length : Int) ((0 : Nat) : Int) e0 e1 := rfl
    rw [s1, back_round hml (by simp) (by simp) (by rfl) hsl]
    have s2 : law02_QuoteBack_3_0_L (F + 2) raw more true [s, encL rs] (([s, encL rs] : List Str).length : Int) ((0 + 1 : Nat) : Int) e0 e1 = law02_QuoteBack_3_0_B quote_Quote quote_Unquote quote_Whole (fun x0' x1' x2' x3' x4' x5' => law02_QuoteBack_3_0_L (F + 1) x0' x1' x2' x3' x4' x5' e0 e1) raw more true [s, encL rs] (([s, encL rs] : List Str).length : Int) ((1 : Nat) : Int) e0 e1 := rfl
    rw [s2, back_round hml (by simp) (by simp) (by rfl) (by omega)]
    rfl
  have hF : ∀ a b c : Nat, a + b + c + Int.natAbs 2 + Int.natAbs 0 + 64 = (a + b + c + 63) + 3 := fun a b c => by
    have : Int.natAbs 2 = 2 := rfl
    have : Int.natAbs 0 = 0 := rfl
    omega
  rw [hF, key]
  simp only [cond_true, h3, whole_eq, hw]

/-! ### what is cut off -/
theorem dec_cut {c : Nat} (hv : vr c) {m : Nat} (h0 : 0 < m) (hm : m < (enc c).length) : ¬ good ((enc c).take m) := by
  intro hg
  have hne : (enc c).take m ≠ [] := by
    intro e
    have := congrArg List.length e
    rw [List.length_take, List.length_nil] at this
    omega
  obtain ⟨e1, e2⟩ := dec_good hne hg
  have hv' := dec_vr ((enc c).take m)
  generalize (decodeL ((enc c).take m)).1 = c' at *
  have h1 := dec_enc hv []
  rw [List.append_nil] at h1
  have e3 : enc c = enc c' ++ (((enc c).take m).drop (decodeL ((enc c).take m)).2 ++ (enc c).drop m) := by
    rw [← List.append_assoc, ← e1, List.take_append_drop]
  rw [e3, dec_enc hv'] at h1
  have h2 : c' = c := congrArg Prod.fst h1
  have h3 := congrArg List.length e1
  rw [List.length_append, List.length_take, h2] at h3
  omega

theorem uq_cut1 {c : Nat} (hv : vr c) {m : Nat} (hm : m < (qc c).length) (n : Nat) (o : Str) : uq n ((qc c).take m) o = none := by
  cases n with
  | zero => rfl
  | succ n =>
    have key : ∀ p : Str, ([34] : Str).isPrefixOf p = false → stepU p = none → uq (n + 1) p o = none := by
      intro p h1 h2
      simp only [uq, h1, h2, Bool.false_eq_true, if_false]
    by_cases hm0 : m = 0
    · subst hm0
      exact key _ rfl rfl
    rcases shortC_cases c with ⟨h0, h34, h92⟩ | h
    · by_cases h32 : c < 32
      · rw [qc_hex h0 h32] at hm ⊢
        simp only [List.length_cons, List.length_nil] at hm
        match m, hm0, hm with
        | 1, _, _ => exact key _ rfl rfl
        | 2, _, _ => exact key _ rfl rfl
        | 3, _, _ => exact key _ rfl rfl
        | 4, _, _ => exact key _ rfl rfl
        | 5, _, _ => exact key _ rfl rfl
        | 0, h, _ => exact (h rfl).elim
        | m + 6, _, h => omega
      · rw [qc_enc h0 h32] at hm ⊢
        obtain ⟨b, u, e, g1, g2⟩ := enc_first hv (by omega) h34 h92
        have hc := dec_cut hv (by omega) hm
        have e2 : (enc c).take m = b :: u.take (m - 1) := by
          rw [e]
          obtain ⟨j, rfl⟩ : ∃ j, m = j + 1 := ⟨m - 1, by omega⟩
          rfl
        refine key _ ?_ ?_
        · rw [e2, pre_cons]; exact u8_ne (n := 34) (by omega) g1
        · unfold stepU
          have : ([92] : Str).isPrefixOf ((enc c).take m) = false := by rw [e2, pre_cons]; exact u8_ne (n := 92) (by omega) g2
          rw [this]
          simp only [Bool.false_eq_true, if_false]
          unfold plainP
          rw [if_neg (by rw [e2]; simp), if_pos (Decidable.not_not.1 hc)]
    · have hl2 : ∃ x, qc c = [92, x] := by rcases h with rfl | rfl | rfl | rfl | rfl | rfl | rfl <;> exact ⟨_, rfl⟩
      obtain ⟨x, hx⟩ := hl2
      rw [hx] at hm ⊢
      simp only [List.length_cons, List.length_nil] at hm
      obtain rfl : m = 1 := by omega
      exact key _ rfl rfl

theorem uq_cut : ∀ (rs : List Nat), (∀ c ∈ rs, vr c) → ∀ (n m : Nat) (o : Str), m < (qcL rs).length + 1 → uq n ((qcL rs ++ [34]).take m) o = none
  | [], _, n, m, o, hm => by
    have : m = 0 := by simp [qcL] at hm; omega
    subst this
    cases n <;> rfl
  | c :: rs, hr, n, m, o, hm => by
    have hv := hr c (by simp)
    have e : qcL (c :: rs) ++ [34] = qc c ++ (qcL rs ++ [34]) := by simp [qcL]
    have e2 : (qcL (c :: rs)).length = (qc c).length + (qcL rs).length := by simp [qcL]
    rw [e]
    by_cases h : m < (qc c).length
    · rw [List.take_append_of_le_length (by omega)]
      exact uq_cut1 hv h n o
    · rw [List.take_append, List.take_of_length_le (by omega)]
      cases n with
      | zero => rfl
      | succ n =>
        obtain ⟨h1, h2⟩ := step_qc hv ((qcL rs ++ [34]).take (m - (qc c).length))
        simp only [uq, h1, h2, Bool.false_eq_true, if_false]
        exact uq_cut rs (fun x hx => hr x (by simp [hx])) n _ _ (by omega)

theorem uqS_cut (rs : List Nat) (hr : ∀ c ∈ rs, vr c) (m : Nat) (hm : m < (qt rs).length) : uqS ((qt rs).take m) = none := by
  rw [qt_len] at hm
  unfold uqS
  cases m with
  | zero => rfl
  | succ m =>
    have e : (qt rs).take (m + 1) = 34 :: (qcL rs ++ [34]).take m := rfl
    rw [e, pre_cons]
    simp only [BEq.rfl, if_true, List.drop_succ_cons, List.drop_zero]
    exact uq_cut rs hr _ m [] (by omega)

theorem quoteCut_true {R : Type} (raw : List Int) (cut : Int) (hr : Small 1048576 (.sl (.int .i64) raw .no)) (hc : Small 1048576 (.int .i64 cut)) (k : Bool → Option R) : law02_QuoteCut raw cut k = k true := by
  obtain ⟨rs, h1, h2, h3⟩ := text_ok (R := R) raw (small_i64 hr).2
  have hci := i64_has.1 hc.int_inv
  have hcount := encL_count rs h1
  have hq := qcL_count rs h1
  have hl := qt_len rs
  have e : law02_QuoteCut raw cut k = law02_QuoteCut_X law02_awake law02_Text law02_pick quote_Quote quote_Unquote raw cut k := rfl
  rw [e]
  unfold law02_QuoteCut_X
  rw [awake02]
  simp only [h3, quote_ok rs h1 (by omega), Bool.not_true, cond_false]
  have hne : (qt rs == ([] : Str)) = false := rfl
  obtain ⟨p, p0, p1, hp⟩ := pick02 (R := R) cut ((qt rs).length : Int) hci (by omega) (by omega)
  rw [hne, cond_false, hp, chk_pos (by rw [dtrue p0, dtrue (by omega)]; rfl), chk_pos (dtrue p0), List.drop_zero, Nat.sub_zero, unquote_ok _ (by rw [List.length_take]; omega), uqS_cut rs h1 p.toNat (by omega)]
  rfl
end Go.Proofs.YtifgegmnngfckaaDoor

/-
  Functions of the program as pure Lean functions, and the ties; printed by wip/tools/emit.py.
-/
set_option maxRecDepth 100000
set_option linter.unusedVariables false
namespace Go.Proofs.YtifgegmnngfckaaDoor
open Go Go.Yard

/-! ### humpyard/humpyardlaw02.QuoteForth -/
abbrev law02_QuoteForth_ty (R : Type) : Type := Str → (List Int) → Int → Str → (Bool → Option R) → Option R
abbrev law02_QuoteForth_p : List Pat := [.leaf (.str), .leaf (.sl (.int .i64)), .leaf (.int .i64), .leaf (.str)]
abbrev law02_QuoteForth_q : List HPat := []
noncomputable def law02_QuoteForth_rr {R : Type} (fn : law02_QuoteForth_ty R) : Pat.dens law02_QuoteForth_p → HPat.dens law02_QuoteForth_q → (V → Heap → Option R) → Option R := fun x y k => fn x.1 x.2.1 x.2.2.1 x.2.2.2.1 (fun q0 => k (.bool q0) [])
abbrev law02_QuoteForth_5_0_ty (R : Type) : Type := Nat → Bool → (List Str) → Int → Int → (Bool → Option R) → (Bool → Bool → Option R) → Option R
noncomputable def law02_QuoteForth_E (R : Type) (law02_awake : law02_awake_ty R) (law02_Text : law02_Text_ty R) (law02_pick : law02_pick_ty R) (quote_Quote : quote_Quote_ty R) (quote_Unquote : quote_Unquote_ty R) (quote_Whole : quote_Whole_ty R) : Env R := fun i => match i with
  | 17 => some (true, (specBy law02_awake_p law02_awake_q (law02_awake_rr law02_awake) specNo))
  | 18 => some (true, (specBy law02_Text_p law02_Text_q (law02_Text_rr law02_Text) specNo))
  | 20 => some (true, (specBy law02_pick_p law02_pick_q (law02_pick_rr law02_pick) specNo))
  | 21 => some (true, (specBy quote_Quote_p quote_Quote_q (quote_Quote_rr quote_Quote) specNo))
  | 22 => some (true, (specBy quote_Unquote_p quote_Unquote_q (quote_Unquote_rr quote_Unquote) specNo))
  | 24 => some (true, (specBy quote_Whole_p quote_Whole_q (quote_Whole_rr quote_Whole) specNo))
  | _ => none
theorem law02_QuoteForth_EOk (R : Type) : EOk Tryd.prog (law02_QuoteForth_E R law02_awake law02_Text law02_pick quote_Quote quote_Unquote quote_Whole) := by
  intro i b sp h
  unfold law02_QuoteForth_E at h
  split at h
  · cases h; exact ⟨(law02_awake_S_ok R _ (specNo_ok _)), fun h => nomatch h⟩
  · cases h; exact ⟨(law02_Text_S_ok R _ (specNo_ok _)), fun h => nomatch h⟩
  · cases h; exact ⟨(law02_pick_S_ok R _ (specNo_ok _)), fun h => nomatch h⟩
  · cases h; exact ⟨(quote_Quote_S_ok R _ (specNo_ok _)), fun h => nomatch h⟩
  · cases h; exact ⟨(quote_Unquote_S_ok R _ (specNo_ok _)), fun h => nomatch h⟩
  · cases h; exact ⟨(quote_Whole_S_ok R _ (specNo_ok _)), fun h => nomatch h⟩
  · cases h

noncomputable def law02_QuoteForth_5_0_B {R : Type} (quote_Quote : quote_Quote_ty R) (quote_Unquote : quote_Unquote_ty R) (quote_Whole : quote_Whole_ty R) (rec' : Bool → (List Str) → Int → Int → Option R) (x10 : Bool) (x11 : List Str) (x12 : Int) (x13 : Int) (e0 : Bool → Option R) (e1 : Bool → Bool → Option R) : Option R :=
  bif (decide (x13 < x12)) then (chk (decide ((0 : Int) ≤ x13) && decide (x13 < x11.length)) (quote_Unquote (x11.getD x13.toNat (Ty.dflt .str)) (fun y14 y15 y16 => bif (!y16) then (bif (!(y14 == ([] : Str))) then (e1 false x10) else (bif (y15 != 0) then (e1 false x10) else (rec' x10 x11 x12 (IntKind.i64.wrap (x13 + 1))))) else (quote_Quote y14 (fun y18 y19 => quote_Unquote y18 (fun y20 y21 y22 => quote_Whole y14 (fun y23 => bif (!y23) then (e1 false x10) else (bif (!y19) then (e1 false x10) else (bif (!y22) then (e1 false x10) else (bif (!(y20 == y14)) then (e1 false x10) else (bif (y21 != (y18.length : Int)) then (e1 false x10) else (bif (decide (y15 < (2 : Int))) then (e1 false x10) else (bif (decide (y15 > ((x11.getD x13.toNat (Ty.dflt .str)).length : Int))) then (e1 false x10) else (rec' x10 x11 x12 (IntKind.i64.wrap (x13 + 1)))))))))))))))) else (e0 x10)
noncomputable def law02_QuoteForth_5_0_L {R : Type} : law02_QuoteForth_5_0_ty R
  | 0, _, _, _, _, _, _ => none
  | n + 1, x0', x1', x2', x3', e0, e1 => law02_QuoteForth_5_0_B quote_Quote quote_Unquote quote_Whole (fun x0' x1' x2' x3' => law02_QuoteForth_5_0_L n x0' x1' x2' x3' e0 e1) x0' x1' x2' x3' e0 e1
noncomputable def law02_QuoteForth_5_0_h : Hint := { live := [9, 47, 48, 49], own := [], rows := [], cells := [], drop := [], out := [8, 9] }
abbrev law02_QuoteForth_5_0_D : Type := Bool × (List Str) × Int × Int
noncomputable def law02_QuoteForth_5_0_enc : law02_QuoteForth_5_0_D → St := fun d => ⟨[.undef, .undef, .undef, .undef, .undef, .undef, .undef, .undef, .undef, .bool d.1, .undef, .undef, .undef, .undef, .undef, .undef, .undef, .undef, .undef, .undef, .undef, .undef, .undef, .undef, .undef, .undef, .undef, .undef, .undef, .undef, .undef, .undef, .undef, .undef, .undef, .undef, .undef, .undef, .undef, .undef, .undef, .undef, .undef, .undef, .undef, .undef, .undef, .sl .str d.2.1 (.own 0), .int .i64 d.2.2.1, .int .i64 d.2.2.2, .undef, .undef, .undef, .undef, .undef, .undef, .undef, .undef, .undef, .undef, .undef, .undef, .undef, .undef, .undef, .undef, .undef, .undef, .undef, .undef, .undef, .undef, .undef, .undef, .undef, .undef, .undef, .undef, .undef, .undef, .undef, .undef, .undef, .undef, .undef, .undef, .undef, .undef, .undef, .undef, .undef, .undef, .undef, .undef, .undef, .undef, .undef, .undef, .undef, .undef, .undef, .undef, .undef, .undef, .undef, .undef, .undef, .undef, .undef, .undef, .undef, .undef], [.tok]⟩
noncomputable def law02_QuoteForth_5_0_x0 {R : Type} (K : Ex → St → Option R) (q0 : Bool) : Option R := K (.exit 0) ⟨[.undef, .undef, .undef, .undef, .undef, .undef, .undef, .undef, .undef, .bool q0, .undef, .undef, .undef, .undef, .undef, .undef, .undef, .undef, .undef, .undef, .undef, .undef, .undef, .undef, .undef, .undef, .undef, .undef, .undef, .undef, .undef, .undef, .undef, .undef, .undef, .undef, .undef, .undef, .undef, .undef, .undef, .undef, .undef, .undef, .undef, .undef, .undef, .undef, .undef, .undef, .undef, .undef, .undef, .undef, .undef, .undef, .undef, .undef, .undef, .undef, .undef, .undef, .undef, .undef, .undef, .undef, .undef, .undef, .undef, .undef, .undef, .undef, .undef, .undef, .undef, .undef, .undef, .undef, .undef, .undef, .undef, .undef, .undef, .undef, .undef, .undef, .undef, .undef, .undef, .undef, .undef, .undef, .undef, .undef, .undef, .undef, .undef, .undef, .undef, .undef, .undef, .undef, .undef, .undef, .undef, .undef, .undef, .undef, .undef, .undef, .undef, .undef], []⟩
noncomputable def law02_QuoteForth_5_0_x1 {R : Type} (K : Ex → St → Option R) (q0 : Bool) (q1 : Bool) : Option R := K (.ret) ⟨[.undef, .undef, .undef, .undef, .undef, .undef, .undef, .undef, .bool q0, .bool q1, .undef, .undef, .undef, .undef, .undef, .undef, .undef, .undef, .undef, .undef, .undef, .undef, .undef, .undef, .undef, .undef, .undef, .undef, .undef, .undef, .undef, .undef, .undef, .undef, .undef, .undef, .undef, .undef, .undef, .undef, .undef, .undef, .undef, .undef, .undef, .undef, .undef, .undef, .undef, .undef, .undef, .undef, .undef, .undef, .undef, .undef, .undef, .undef, .undef, .undef, .undef, .undef, .undef, .undef, .undef, .undef, .undef, .undef, .undef, .undef, .undef, .undef, .undef, .undef, .undef, .undef, .undef, .undef, .undef, .undef, .undef, .undef, .undef, .undef, .undef, .undef, .undef, .undef, .undef, .undef, .undef, .undef, .undef, .undef, .undef, .undef, .undef, .undef, .undef, .undef, .undef, .undef, .undef, .undef, .undef, .undef, .undef, .undef, .undef, .undef, .undef, .undef], []⟩
noncomputable def law02_QuoteForth_5_0_s {R : Type} (quote_Quote : quote_Quote_ty R) (quote_Unquote : quote_Unquote_ty R) (quote_Whole : quote_Whole_ty R) (K : Ex → St → Option R) (rc : law02_QuoteForth_5_0_D → Option R) (d : law02_QuoteForth_5_0_D) : Option R := law02_QuoteForth_5_0_B quote_Quote quote_Unquote quote_Whole (fun z0 z1 z2 z3 => rc (z0, z1, z2, z3)) d.1 d.2.1 d.2.2.1 d.2.2.2 (law02_QuoteForth_5_0_x0 K) (law02_QuoteForth_5_0_x1 K)
noncomputable def law02_QuoteForth_5_0_A {R : Type} (K : Ex → St → Option R) (n : Nat) (d : law02_QuoteForth_5_0_D) : Option R := law02_QuoteForth_5_0_L n d.1 d.2.1 d.2.2.1 d.2.2.2 (law02_QuoteForth_5_0_x0 K) (law02_QuoteForth_5_0_x1 K)
abbrev law02_QuoteForth_5_0_p : List Pat := [.leaf (.undef), .leaf (.undef), .leaf (.undef), .leaf (.undef), .leaf (.undef), .leaf (.undef), .leaf (.undef), .leaf (.undef), .leaf (.undef), .leaf (.bool), .leaf (.undef), .leaf (.undef), .leaf (.undef), .leaf (.undef), .leaf (.undef), .leaf (.undef), .leaf (.undef), .leaf (.undef), .leaf (.undef), .leaf (.undef), .leaf (.undef), .leaf (.undef), .leaf (.undef), .leaf (.undef), .leaf (.undef), .leaf (.undef), .leaf (.undef), .leaf (.undef), .leaf (.undef), .leaf (.undef), .leaf (.undef), .leaf (.undef), .leaf (.undef), .leaf (.undef), .leaf (.undef), .leaf (.undef), .leaf (.undef), .leaf (.undef), .leaf (.undef), .leaf (.undef), .leaf (.undef), .leaf (.undef), .leaf (.undef), .leaf (.undef), .leaf (.undef), .leaf (.undef), .leaf (.undef), .leaf (.slo .str 0), .leaf (.int .i64), .leaf (.int .i64), .leaf (.undef), .leaf (.undef), .leaf (.undef), .leaf (.undef), .leaf (.undef), .leaf (.undef), .leaf (.undef), .leaf (.undef), .leaf (.undef), .leaf (.undef), .leaf (.undef), .leaf (.undef), .leaf (.undef), .leaf (.undef), .leaf (.undef), .leaf (.undef), .leaf (.undef), .leaf (.undef), .leaf (.undef), .leaf (.undef), .leaf (.undef), .leaf (.undef), .leaf (.undef), .leaf (.undef), .leaf (.undef), .leaf (.undef), .leaf (.undef), .leaf (.undef), .leaf (.undef), .leaf (.undef), .leaf (.undef), .leaf (.undef), .leaf (.undef), .leaf (.undef), .leaf (.undef), .leaf (.undef), .leaf (.undef), .leaf (.undef), .leaf (.undef), .leaf (.undef), .leaf (.undef), .leaf (.undef), .leaf (.undef), .leaf (.undef), .leaf (.undef), .leaf (.undef), .leaf (.undef), .leaf (.undef), .leaf (.undef), .leaf (.undef), .leaf (.undef), .leaf (.undef), .leaf (.undef), .leaf (.undef), .leaf (.undef), .leaf (.undef), .leaf (.undef), .leaf (.undef), .leaf (.undef), .leaf (.undef), .leaf (.undef), .leaf (.undef)]
abbrev law02_QuoteForth_5_0_q : List HPat := [.tok]
noncomputable def law02_QuoteForth_5_0_f (x : Pat.dens law02_QuoteForth_5_0_p) (y : HPat.dens law02_QuoteForth_5_0_q) : Nat := (List.length x.2.2.2.2.2.2.2.2.2.2.2.2.2.2.2.2.2.2.2.2.2.2.2.2.2.2.2.2.2.2.2.2.2.2.2.2.2.2.2.2.2.2.2.2.2.2.2.1 + Int.natAbs x.2.2.2.2.2.2.2.2.2.2.2.2.2.2.2.2.2.2.2.2.2.2.2.2.2.2.2.2.2.2.2.2.2.2.2.2.2.2.2.2.2.2.2.2.2.2.2.2.1 + Int.natAbs x.2.2.2.2.2.2.2.2.2.2.2.2.2.2.2.2.2.2.2.2.2.2.2.2.2.2.2.2.2.2.2.2.2.2.2.2.2.2.2.2.2.2.2.2.2.2.2.2.2.1 + 64)
noncomputable def law02_QuoteForth_5_0_d (x : Pat.dens law02_QuoteForth_5_0_p) (y : HPat.dens law02_QuoteForth_5_0_q) : law02_QuoteForth_5_0_D := (x.2.2.2.2.2.2.2.2.2.1, x.2.2.2.2.2.2.2.2.2.2.2.2.2.2.2.2.2.2.2.2.2.2.2.2.2.2.2.2.2.2.2.2.2.2.2.2.2.2.2.2.2.2.2.2.2.2.2.1, x.2.2.2.2.2.2.2.2.2.2.2.2.2.2.2.2.2.2.2.2.2.2.2.2.2.2.2.2.2.2.2.2.2.2.2.2.2.2.2.2.2.2.2.2.2.2.2.2.1, x.2.2.2.2.2.2.2.2.2.2.2.2.2.2.2.2.2.2.2.2.2.2.2.2.2.2.2.2.2.2.2.2.2.2.2.2.2.2.2.2.2.2.2.2.2.2.2.2.2.1)
noncomputable def law02_QuoteForth_5_0_rr {R : Type} (L : law02_QuoteForth_5_0_ty R) : Pat.dens law02_QuoteForth_5_0_p → HPat.dens law02_QuoteForth_5_0_q → (Ex → St → Option R) → Option R := fun x y K => L (law02_QuoteForth_5_0_f x y) x.2.2.2.2.2.2.2.2.2.1 x.2.2.2.2.2.2.2.2.2.2.2.2.2.2.2.2.2.2.2.2.2.2.2.2.2.2.2.2.2.2.2.2.2.2.2.2.2.2.2.2.2.2.2.2.2.2.2.1 x.2.2.2.2.2.2.2.2.2.2.2.2.2.2.2.2.2.2.2.2.2.2.2.2.2.2.2.2.2.2.2.2.2.2.2.2.2.2.2.2.2.2.2.2.2.2.2.2.1 x.2.2.2.2.2.2.2.2.2.2.2.2.2.2.2.2.2.2.2.2.2.2.2.2.2.2.2.2.2.2.2.2.2.2.2.2.2.2.2.2.2.2.2.2.2.2.2.2.2.1 (law02_QuoteForth_5_0_x0 K) (law02_QuoteForth_5_0_x1 K)
noncomputable def law02_QuoteForth_T (R : Type) (law02_QuoteForth_5_0_L : law02_QuoteForth_5_0_ty R) : Nat → Option (Hint × LSpec R) := fun i => match i with
  | 5 => some (law02_QuoteForth_5_0_h, (loopBy law02_QuoteForth_5_0_p law02_QuoteForth_5_0_q (law02_QuoteForth_5_0_rr law02_QuoteForth_5_0_L) loopNo))
  | _ => none

theorem law02_QuoteForth_5_0_B_ok {R : Type} (law02_awake : law02_awake_ty R) (law02_Text : law02_Text_ty R) (law02_pick : law02_pick_ty R) (quote_Quote : quote_Quote_ty R) (quote_Unquote : quote_Unquote_ty R) (quote_Whole : quote_Whole_ty R) (law02_QuoteForth_5_0_L : law02_QuoteForth_5_0_ty R) (K : Ex → St → Option R) (rc : St → Option R) (d : law02_QuoteForth_5_0_D) : roundOf tt (law02_QuoteForth_E R law02_awake law02_Text law02_pick quote_Quote quote_Unquote quote_Whole) (law02_QuoteForth_T R law02_QuoteForth_5_0_L) 0 ((loopsOf (codeOf Tryd.f5)).getD 0 .skip) law02_QuoteForth_5_0_h (law02_QuoteForth_5_0_enc d) rc K = law02_QuoteForth_5_0_s quote_Quote quote_Unquote quote_Whole K (fun d => rc (law02_QuoteForth_5_0_enc d)) d := by kernel_rfl
theorem law02_QuoteForth_5_0_A_succ {R : Type} (K : Ex → St → Option R) (n : Nat) (d : law02_QuoteForth_5_0_D) : law02_QuoteForth_5_0_A K (n + 1) d = law02_QuoteForth_5_0_s quote_Quote quote_Unquote quote_Whole K (law02_QuoteForth_5_0_A K n) d := by kernel_rfl
theorem law02_QuoteForth_5_0_A_zero {R : Type} (K : Ex → St → Option R) (d : law02_QuoteForth_5_0_D) : law02_QuoteForth_5_0_A K 0 d = none := by kernel_rfl
theorem law02_QuoteForth_5_0_e_ok (x : Pat.dens law02_QuoteForth_5_0_p) (y : HPat.dens law02_QuoteForth_5_0_q) : (⟨Pat.encL law02_QuoteForth_5_0_p x, HPat.encL law02_QuoteForth_5_0_q y⟩ : St) = law02_QuoteForth_5_0_enc (law02_QuoteForth_5_0_d x y) := by kernel_rfl
theorem law02_QuoteForth_5_0_r_ok {R : Type} (x : Pat.dens law02_QuoteForth_5_0_p) (y : HPat.dens law02_QuoteForth_5_0_q) (K : Ex → St → Option R) : law02_QuoteForth_5_0_rr (law02_QuoteForth_5_0_L) x y K = law02_QuoteForth_5_0_A K (law02_QuoteForth_5_0_f x y) (law02_QuoteForth_5_0_d x y) := by kernel_rfl
theorem law02_QuoteForth_5_0_ok {R : Type} (other : LSpec R) (ho : LsOk tt (law02_QuoteForth_E R law02_awake law02_Text law02_pick quote_Quote quote_Unquote quote_Whole) (law02_QuoteForth_T R law02_QuoteForth_5_0_L) 0 ((loopsOf (codeOf Tryd.f5)).getD 0 .skip) law02_QuoteForth_5_0_h other) : LsOk tt (law02_QuoteForth_E R law02_awake law02_Text law02_pick quote_Quote quote_Unquote quote_Whole) (law02_QuoteForth_T R law02_QuoteForth_5_0_L) 0 ((loopsOf (codeOf Tryd.f5)).getD 0 .skip) law02_QuoteForth_5_0_h (loopBy law02_QuoteForth_5_0_p law02_QuoteForth_5_0_q (law02_QuoteForth_5_0_rr (law02_QuoteForth_5_0_L)) other) :=
  loopBy_tie (A := law02_QuoteForth_5_0_A) ho (loop_tie law02_QuoteForth_5_0_enc (law02_QuoteForth_5_0_s quote_Quote quote_Unquote quote_Whole) (law02_QuoteForth_5_0_A) (law02_QuoteForth_5_0_A_zero) (law02_QuoteForth_5_0_B_ok law02_awake law02_Text law02_pick quote_Quote quote_Unquote quote_Whole law02_QuoteForth_5_0_L) (law02_QuoteForth_5_0_A_succ)) law02_QuoteForth_5_0_f law02_QuoteForth_5_0_d law02_QuoteForth_5_0_e_ok (law02_QuoteForth_5_0_r_ok)

noncomputable def law02_QuoteForth_X {R : Type} (law02_awake : law02_awake_ty R) (law02_Text : law02_Text_ty R) (law02_pick : law02_pick_ty R) (quote_Quote : quote_Quote_ty R) (law02_QuoteForth_5_0_L : law02_QuoteForth_5_0_ty R) (x1 : Str) (x2 : List Int) (x3 : Int) (x4 : Str) (k0 : Bool → Option R) : Option R :=
  law02_awake (fun y5 => law02_Text x2 (fun y6 => quote_Quote y6 (fun y7 y8 => law02_pick x3 (IntKind.i64.wrap ((y7.length : Int) + 1)) (fun y9 => chk (decide (1 + x1.length ≤ 9223372036854775807)) (chk (decide ((([34] : Str) ++ x1).length + 1 ≤ 9223372036854775807)) (chk (decide ((0 : Int) ≤ y9) && decide (y9 ≤ y7.length)) (chk (decide ((0 : Int) ≤ y9)) (chk (decide (((y7.drop 0).take (y9.toNat - 0)).length + x4.length ≤ 9223372036854775807)) (chk (decide ((0 : Int) ≤ (y7.length : Int)) && decide ((y7.length : Int) ≤ y7.length)) (chk (decide ((0 : Int) ≤ y9) && decide (y9 ≤ (y7.length : Int))) (chk (decide ((((y7.drop 0).take (y9.toNat - 0)) ++ x4).length + ((y7.drop y9.toNat).take ((y7.length : Int).toNat - y9.toNat)).length ≤ 9223372036854775807)) (law02_QuoteForth_5_0_L (List.length ([((([34] : Str) ++ x1) ++ ([34] : Str)), ((((y7.drop 0).take (y9.toNat - 0)) ++ x4) ++ ((y7.drop y9.toNat).take ((y7.length : Int).toNat - y9.toNat)))] : List Str) + Int.natAbs 2 + Int.natAbs 0 + 64) y5 ([((([34] : Str) ++ x1) ++ ([34] : Str)), ((((y7.drop 0).take (y9.toNat - 0)) ++ x4) ++ ((y7.drop y9.toNat).take ((y7.length : Int).toNat - y9.toNat)))] : List Str) 2 0 (fun y25 => k0 y25) (fun y26 y27 => k0 y26)))))))))))))
noncomputable def law02_QuoteForth {R : Type} : law02_QuoteForth_ty R := fun x1 x2 x3 x4 k0 => law02_QuoteForth_X law02_awake law02_Text law02_pick quote_Quote law02_QuoteForth_5_0_L x1 x2 x3 x4 k0
theorem law02_QuoteForth_ok {R : Type} (law02_awake : law02_awake_ty R) (law02_Text : law02_Text_ty R) (law02_pick : law02_pick_ty R) (quote_Quote : quote_Quote_ty R) (quote_Unquote : quote_Unquote_ty R) (quote_Whole : quote_Whole_ty R) (law02_QuoteForth_5_0_L : law02_QuoteForth_5_0_ty R) (x1 : Str) (x2 : List Int) (x3 : Int) (x4 : Str) (k : V → Heap → Option R) : funK tt (law02_QuoteForth_E R law02_awake law02_Text law02_pick quote_Quote quote_Unquote quote_Whole) (law02_QuoteForth_T R law02_QuoteForth_5_0_L) false Tryd.f5 (codeOf Tryd.f5) [.str x1, .sl (.int .i64) x2 .no, .int .i64 x3, .str x4] [] k =
    law02_QuoteForth_X law02_awake law02_Text law02_pick quote_Quote law02_QuoteForth_5_0_L x1 x2 x3 x4 (fun q0 => k (.bool q0) []) := by kernel_rfl
theorem law02_QuoteForth_loops (R : Type) : ∀ a ∈ loopsOf (codeOf Tryd.f5), LoopOk tt (law02_QuoteForth_E R law02_awake law02_Text law02_pick quote_Quote quote_Unquote quote_Whole) (law02_QuoteForth_T R law02_QuoteForth_5_0_L) 0 a := by
  refine loops_ok 1 (by kernel_rfl) fun i hi => ?_
  match i, hi with
  | 0, _ => exact loopOk_some (by kernel_rfl) (law02_QuoteForth_5_0_ok _ loopNo_ok)
  | n + 1, hi => omega
theorem law02_QuoteForth_S_ok (R : Type) (other : Yard.Spec R) (ho : Yard.Spec.Ok Tryd.prog 5 other) : Yard.Spec.Ok Tryd.prog 5 (specBy law02_QuoteForth_p law02_QuoteForth_q (law02_QuoteForth_rr law02_QuoteForth) other) :=
  specBy_ok ho (funK_sound TT mixed (law02_QuoteForth_EOk R) (keep := false) rfl rfl rfl rfl 0 (law02_QuoteForth_loops R)) fun (x : Pat.dens law02_QuoteForth_p) (y : HPat.dens law02_QuoteForth_q) k => law02_QuoteForth_ok law02_awake law02_Text law02_pick quote_Quote quote_Unquote quote_Whole law02_QuoteForth_5_0_L x.1 x.2.1 x.2.2.1 x.2.2.2.1 k

/-! ### humpyard/humpyardlaw02.QuotePlain -/
abbrev law02_QuotePlain_ty (R : Type) : Type := (List Int) → (List Int) → (Bool → Option R) → Option R
abbrev law02_QuotePlain_p : List Pat := [.leaf (.sl (.int .i64)), .leaf (.sl (.int .i64))]
abbrev law02_QuotePlain_q : List HPat := []
noncomputable def law02_QuotePlain_rr {R : Type} (fn : law02_QuotePlain_ty R) : Pat.dens law02_QuotePlain_p → HPat.dens law02_QuotePlain_q → (V → Heap → Option R) → Option R := fun x y k => fn x.1 x.2.1 (fun q0 => k (.bool q0) [])
abbrev law02_QuotePlain_8_0_ty (R : Type) : Type := Nat → Str → Str → Str → Int → (Str → Str → Str → Option R) → (Bool → Str → Str → Str → Option R) → Option R
noncomputable def law02_QuotePlain_E (R : Type) (law02_awake : law02_awake_ty R) (law02_Text : law02_Text_ty R) (quote_Quote : quote_Quote_ty R) : Env R := fun i => match i with
  | 17 => some (true, (specBy law02_awake_p law02_awake_q (law02_awake_rr law02_awake) specNo))
  | 18 => some (true, (specBy law02_Text_p law02_Text_q (law02_Text_rr law02_Text) specNo))
  | 21 => some (true, (specBy quote_Quote_p quote_Quote_q (quote_Quote_rr quote_Quote) specNo))
  | _ => none
theorem law02_QuotePlain_EOk (R : Type) : EOk Tryd.prog (law02_QuotePlain_E R law02_awake law02_Text quote_Quote) := by
  intro i b sp h
  unfold law02_QuotePlain_E at h
  split at h
  · cases h; exact ⟨(law02_awake_S_ok R _ (specNo_ok _)), fun h => nomatch h⟩
  · cases h; exact ⟨(law02_Text_S_ok R _ (specNo_ok _)), fun h => nomatch h⟩
  · cases h; exact ⟨(quote_Quote_S_ok R _ (specNo_ok _)), fun h => nomatch h⟩
  · cases h

noncomputable def law02_QuotePlain_8_0_B {R : Type} (rec' : Str → Str → Str → Int → Option R) (x15 : Str) (x16 : Str) (x17 : Str) (x18 : Int) (e0 : Str → Str → Str → Option R) (e1 : Bool → Str → Str → Str → Option R) : Option R :=
  bif (decide (x18 < (x17.length : Int))) then (chk (decide ((0 : Int) ≤ x18) && decide (x18 < x17.length)) (bif (decide (((x17.getD x18.toNat 0).toNat : Int) < (32 : Int))) then (e1 false x15 x16 x17) else (rec' x15 x16 x17 (IntKind.i64.wrap (x18 + 1))))) else (e0 x15 x16 x17)
noncomputable def law02_QuotePlain_8_0_L {R : Type} : law02_QuotePlain_8_0_ty R
  | 0, _, _, _, _, _, _ => none
  | n + 1, x0', x1', x2', x3', e0, e1 => law02_QuotePlain_8_0_B (fun x0' x1' x2' x3' => law02_QuotePlain_8_0_L n x0' x1' x2' x3' e0 e1) x0' x1' x2' x3' e0 e1
noncomputable def law02_QuotePlain_8_0_h : Hint := { live := [6, 8, 10, 12], own := [], rows := [], cells := [], drop := [], out := [4, 6, 8, 10] }
abbrev law02_QuotePlain_8_0_D : Type := Str × Str × Str × Int
noncomputable def law02_QuotePlain_8_0_enc : law02_QuotePlain_8_0_D → St := fun d => ⟨[.undef, .undef, .undef, .undef, .undef, .undef, .str d.1, .undef, .str d.2.1, .undef, .str d.2.2.1, .undef, .int .i64 d.2.2.2, .undef, .undef, .undef, .undef, .undef, .undef, .undef, .undef, .undef, .undef, .undef, .undef, .undef, .undef, .undef, .undef, .undef, .undef, .undef, .undef, .undef, .undef, .undef, .undef, .undef, .undef, .undef, .undef, .undef, .undef, .undef, .undef, .undef, .undef, .undef, .undef, .undef, .undef, .undef, .undef, .undef, .undef, .undef, .undef, .undef, .undef, .undef, .undef, .undef, .undef, .undef, .undef, .undef, .undef, .undef, .undef, .undef, .undef, .undef, .undef, .undef, .undef, .undef, .undef, .undef, .undef], []⟩
noncomputable def law02_QuotePlain_8_0_x0 {R : Type} (K : Ex → St → Option R) (q0 : Str) (q1 : Str) (q2 : Str) : Option R := K (.exit 0) ⟨[.undef, .undef, .undef, .undef, .undef, .undef, .str q0, .undef, .str q1, .undef, .str q2, .undef, .undef, .undef, .undef, .undef, .undef, .undef, .undef, .undef, .undef, .undef, .undef, .undef, .undef, .undef, .undef, .undef, .undef, .undef, .undef, .undef, .undef, .undef, .undef, .undef, .undef, .undef, .undef, .undef, .undef, .undef, .undef, .undef, .undef, .undef, .undef, .undef, .undef, .undef, .undef, .undef, .undef, .undef, .undef, .undef, .undef, .undef, .undef, .undef, .undef, .undef, .undef, .undef, .undef, .undef, .undef, .undef, .undef, .undef, .undef, .undef, .undef, .undef, .undef, .undef, .undef, .undef, .undef], []⟩
noncomputable def law02_QuotePlain_8_0_x1 {R : Type} (K : Ex → St → Option R) (q0 : Bool) (q1 : Str) (q2 : Str) (q3 : Str) : Option R := K (.ret) ⟨[.undef, .undef, .undef, .undef, .bool q0, .undef, .str q1, .undef, .str q2, .undef, .str q3, .undef, .undef, .undef, .undef, .undef, .undef, .undef, .undef, .undef, .undef, .undef, .undef, .undef, .undef, .undef, .undef, .undef, .undef, .undef, .undef, .undef, .undef, .undef, .undef, .undef, .undef, .undef, .undef, .undef, .undef, .undef, .undef, .undef, .undef, .undef, .undef, .undef, .undef, .undef, .undef, .undef, .undef, .undef, .undef, .undef, .undef, .undef, .undef, .undef, .undef, .undef, .undef, .undef, .undef, .undef, .undef, .undef, .undef, .undef, .undef, .undef, .undef, .undef, .undef, .undef, .undef, .undef, .undef], []⟩
noncomputable def law02_QuotePlain_8_0_s {R : Type} (K : Ex → St → Option R) (rc : law02_QuotePlain_8_0_D → Option R) (d : law02_QuotePlain_8_0_D) : Option R := law02_QuotePlain_8_0_B (fun z0 z1 z2 z3 => rc (z0, z1, z2, z3)) d.1 d.2.1 d.2.2.1 d.2.2.2 (law02_QuotePlain_8_0_x0 K) (law02_QuotePlain_8_0_x1 K)
noncomputable def law02_QuotePlain_8_0_A {R : Type} (K : Ex → St → Option R) (n : Nat) (d : law02_QuotePlain_8_0_D) : Option R := law02_QuotePlain_8_0_L n d.1 d.2.1 d.2.2.1 d.2.2.2 (law02_QuotePlain_8_0_x0 K) (law02_QuotePlain_8_0_x1 K)
abbrev law02_QuotePlain_8_0_p : List Pat := [.leaf (.undef), .leaf (.undef), .leaf (.undef), .leaf (.undef), .leaf (.undef), .leaf (.undef), .leaf (.str), .leaf (.undef), .leaf (.str), .leaf (.undef), .leaf (.str), .leaf (.undef), .leaf (.int .i64), .leaf (.undef), .leaf (.undef), .leaf (.undef), .leaf (.undef), .leaf (.undef), .leaf (.undef), .leaf (.undef), .leaf (.undef), .leaf (.undef), .leaf (.undef), .leaf (.undef), .leaf (.undef), .leaf (.undef), .leaf (.undef), .leaf (.undef), .leaf (.undef), .leaf (.undef), .leaf (.undef), .leaf (.undef), .leaf (.undef), .leaf (.undef), .leaf (.undef), .leaf (.undef), .leaf (.undef), .leaf (.undef), .leaf (.undef), .leaf (.undef), .leaf (.undef), .leaf (.undef), .leaf (.undef), .leaf (.undef), .leaf (.undef), .leaf (.undef), .leaf (.undef), .leaf (.undef), .leaf (.undef), .leaf (.undef), .leaf (.undef), .leaf (.undef), .leaf (.undef), .leaf (.undef), .leaf (.undef), .leaf (.undef), .leaf (.undef), .leaf (.undef), .leaf (.undef), .leaf (.undef), .leaf (.undef), .leaf (.undef), .leaf (.undef), .leaf (.undef), .leaf (.undef), .leaf (.undef), .leaf (.undef), .leaf (.undef), .leaf (.undef), .leaf (.undef), .leaf (.undef), .leaf (.undef), .leaf (.undef), .leaf (.undef), .leaf (.undef), .leaf (.undef), .leaf (.undef), .leaf (.undef), .leaf (.undef)]
abbrev law02_QuotePlain_8_0_q : List HPat := []
noncomputable def law02_QuotePlain_8_0_f (x : Pat.dens law02_QuotePlain_8_0_p) (y : HPat.dens law02_QuotePlain_8_0_q) : Nat := (List.length x.2.2.2.2.2.2.1 + List.length x.2.2.2.2.2.2.2.2.1 + List.length x.2.2.2.2.2.2.2.2.2.2.1 + Int.natAbs x.2.2.2.2.2.2.2.2.2.2.2.2.1 + 64)
noncomputable def law02_QuotePlain_8_0_d (x : Pat.dens law02_QuotePlain_8_0_p) (y : HPat.dens law02_QuotePlain_8_0_q) : law02_QuotePlain_8_0_D := (x.2.2.2.2.2.2.1, x.2.2.2.2.2.2.2.2.1, x.2.2.2.2.2.2.2.2.2.2.1, x.2.2.2.2.2.2.2.2.2.2.2.2.1)
noncomputable def law02_QuotePlain_8_0_rr {R : Type} (L : law02_QuotePlain_8_0_ty R) : Pat.dens law02_QuotePlain_8_0_p → HPat.dens law02_QuotePlain_8_0_q → (Ex → St → Option R) → Option R := fun x y K => L (law02_QuotePlain_8_0_f x y) x.2.2.2.2.2.2.1 x.2.2.2.2.2.2.2.2.1 x.2.2.2.2.2.2.2.2.2.2.1 x.2.2.2.2.2.2.2.2.2.2.2.2.1 (law02_QuotePlain_8_0_x0 K) (law02_QuotePlain_8_0_x1 K)
noncomputable def law02_QuotePlain_T (R : Type) (law02_QuotePlain_8_0_L : law02_QuotePlain_8_0_ty R) : Nat → Option (Hint × LSpec R) := fun i => match i with
  | 8 => some (law02_QuotePlain_8_0_h, (loopBy law02_QuotePlain_8_0_p law02_QuotePlain_8_0_q (law02_QuotePlain_8_0_rr law02_QuotePlain_8_0_L) loopNo))
  | _ => none

theorem law02_QuotePlain_8_0_B_ok {R : Type} (law02_awake : law02_awake_ty R) (law02_Text : law02_Text_ty R) (quote_Quote : quote_Quote_ty R) (law02_QuotePlain_8_0_L : law02_QuotePlain_8_0_ty R) (K : Ex → St → Option R) (rc : St → Option R) (d : law02_QuotePlain_8_0_D) : roundOf tt (law02_QuotePlain_E R law02_awake law02_Text quote_Quote) (law02_QuotePlain_T R law02_QuotePlain_8_0_L) 0 ((loopsOf (codeOf Tryd.f6)).getD 0 .skip) law02_QuotePlain_8_0_h (law02_QuotePlain_8_0_enc d) rc K = law02_QuotePlain_8_0_s K (fun d => rc (law02_QuotePlain_8_0_enc d)) d := by kernel_rfl
theorem law02_QuotePlain_8_0_A_succ {R : Type} (K : Ex → St → Option R) (n : Nat) (d : law02_QuotePlain_8_0_D) : law02_QuotePlain_8_0_A K (n + 1) d = law02_QuotePlain_8_0_s K (law02_QuotePlain_8_0_A K n) d := by kernel_rfl
theorem law02_QuotePlain_8_0_A_zero {R : Type} (K : Ex → St → Option R) (d : law02_QuotePlain_8_0_D) : law02_QuotePlain_8_0_A K 0 d = none := by kernel_rfl
theorem law02_QuotePlain_8_0_e_ok (x : Pat.dens law02_QuotePlain_8_0_p) (y : HPat.dens law02_QuotePlain_8_0_q) : (⟨Pat.encL law02_QuotePlain_8_0_p x, HPat.encL law02_QuotePlain_8_0_q y⟩ : St) = law02_QuotePlain_8_0_enc (law02_QuotePlain_8_0_d x y) := by kernel_rfl
theorem law02_QuotePlain_8_0_r_ok {R : Type} (x : Pat.dens law02_QuotePlain_8_0_p) (y : HPat.dens law02_QuotePlain_8_0_q) (K : Ex → St → Option R) : law02_QuotePlain_8_0_rr (law02_QuotePlain_8_0_L) x y K = law02_QuotePlain_8_0_A K (law02_QuotePlain_8_0_f x y) (law02_QuotePlain_8_0_d x y) := by kernel_rfl
theorem law02_QuotePlain_8_0_ok {R : Type} (other : LSpec R) (ho : LsOk tt (law02_QuotePlain_E R law02_awake law02_Text quote_Quote) (law02_QuotePlain_T R law02_QuotePlain_8_0_L) 0 ((loopsOf (codeOf Tryd.f6)).getD 0 .skip) law02_QuotePlain_8_0_h other) : LsOk tt (law02_QuotePlain_E R law02_awake law02_Text quote_Quote) (law02_QuotePlain_T R law02_QuotePlain_8_0_L) 0 ((loopsOf (codeOf Tryd.f6)).getD 0 .skip) law02_QuotePlain_8_0_h (loopBy law02_QuotePlain_8_0_p law02_QuotePlain_8_0_q (law02_QuotePlain_8_0_rr (law02_QuotePlain_8_0_L)) other) :=
  loopBy_tie (A := law02_QuotePlain_8_0_A) ho (loop_tie law02_QuotePlain_8_0_enc (law02_QuotePlain_8_0_s) (law02_QuotePlain_8_0_A) (law02_QuotePlain_8_0_A_zero) (law02_QuotePlain_8_0_B_ok law02_awake law02_Text quote_Quote law02_QuotePlain_8_0_L) (law02_QuotePlain_8_0_A_succ)) law02_QuotePlain_8_0_f law02_QuotePlain_8_0_d law02_QuotePlain_8_0_e_ok (law02_QuotePlain_8_0_r_ok)

noncomputable def law02_QuotePlain_X {R : Type} (law02_awake : law02_awake_ty R) (law02_Text : law02_Text_ty R) (quote_Quote : quote_Quote_ty R) (law02_QuotePlain_8_0_L : law02_QuotePlain_8_0_ty R) (x1 : List Int) (x2 : List Int) (k0 : Bool → Option R) : Option R :=
  law02_awake (fun y3 => law02_Text x1 (fun y4 => quote_Quote y4 (fun y5 y6 => law02_Text x2 (fun y7 => quote_Quote y7 (fun y8 y9 => law02_Text x1 (fun y10 => law02_Text x2 (fun y11 => chk (decide (y10.length + y11.length ≤ 9223372036854775807)) (quote_Quote (y10 ++ y11) (fun y12 y13 => bif (!y3) then (k0 false) else (bif (!y6) then (k0 false) else (bif (!y9) then (k0 false) else (bif (!y13) then (k0 false) else (bif (decide ((y5.length : Int) < (2 : Int))) then (k0 false) else (bif (decide ((y8.length : Int) < (2 : Int))) then (k0 false) else (law02_QuotePlain_8_0_L (List.length y5 + List.length y8 + List.length y12 + Int.natAbs 0 + 64) y5 y8 y12 0 (fun y19 y20 y21 => chk (decide ((0 : Int) ≤ (IntKind.i64.wrap ((y19.length : Int) - 1))) && decide ((IntKind.i64.wrap ((y19.length : Int) - 1)) ≤ y19.length)) (chk (decide ((0 : Int) ≤ (IntKind.i64.wrap ((y19.length : Int) - 1)))) (chk (decide ((0 : Int) ≤ (y20.length : Int)) && decide ((y20.length : Int) ≤ y20.length)) (chk (decide ((1 : Int) ≤ (y20.length : Int))) (chk (decide (((y19.drop 0).take ((IntKind.i64.wrap ((y19.length : Int) - 1)).toNat - 0)).length + ((y20.drop 1).take ((y20.length : Int).toNat - 1)).length ≤ 9223372036854775807)) (k0 (y21 == (((y19.drop 0).take ((IntKind.i64.wrap ((y19.length : Int) - 1)).toNat - 0)) ++ ((y20.drop 1).take ((y20.length : Int).toNat - 1)))))))))) (fun y22 y23 y24 y25 => k0 y22))))))))))))))))
noncomputable def law02_QuotePlain {R : Type} : law02_QuotePlain_ty R := fun x1 x2 k0 => law02_QuotePlain_X law02_awake law02_Text quote_Quote law02_QuotePlain_8_0_L x1 x2 k0
theorem law02_QuotePlain_ok {R : Type} (law02_awake : law02_awake_ty R) (law02_Text : law02_Text_ty R) (quote_Quote : quote_Quote_ty R) (law02_QuotePlain_8_0_L : law02_QuotePlain_8_0_ty R) (x1 : List Int) (x2 : List Int) (k : V → Heap → Option R) : funK tt (law02_QuotePlain_E R law02_awake law02_Text quote_Quote) (law02_QuotePlain_T R law02_QuotePlain_8_0_L) false Tryd.f6 (codeOf Tryd.f6) [.sl (.int .i64) x1 .no, .sl (.int .i64) x2 .no] [] k =
    law02_QuotePlain_X law02_awake law02_Text quote_Quote law02_QuotePlain_8_0_L x1 x2 (fun q0 => k (.bool q0) []) := by kernel_rfl
theorem law02_QuotePlain_loops (R : Type) : ∀ a ∈ loopsOf (codeOf Tryd.f6), LoopOk tt (law02_QuotePlain_E R law02_awake law02_Text quote_Quote) (law02_QuotePlain_T R law02_QuotePlain_8_0_L) 0 a := by
  refine loops_ok 1 (by kernel_rfl) fun i hi => ?_
  match i, hi with
  | 0, _ => exact loopOk_some (by kernel_rfl) (law02_QuotePlain_8_0_ok _ loopNo_ok)
  | n + 1, hi => omega
theorem law02_QuotePlain_S_ok (R : Type) (other : Yard.Spec R) (ho : Yard.Spec.Ok Tryd.prog 6 other) : Yard.Spec.Ok Tryd.prog 6 (specBy law02_QuotePlain_p law02_QuotePlain_q (law02_QuotePlain_rr law02_QuotePlain) other) :=
  specBy_ok ho (funK_sound TT mixed (law02_QuotePlain_EOk R) (keep := false) rfl rfl rfl rfl 0 (law02_QuotePlain_loops R)) fun (x : Pat.dens law02_QuotePlain_p) (y : HPat.dens law02_QuotePlain_q) k => law02_QuotePlain_ok law02_awake law02_Text quote_Quote law02_QuotePlain_8_0_L x.1 x.2.1 k

/-! ### humpyard/humpyardlaw02.QuoteUnits -/
abbrev law02_QuoteUnits_ty (R : Type) : Type := Int → Bool → (Bool → Option R) → Option R
abbrev law02_QuoteUnits_p : List Pat := [.leaf (.int .i64), .leaf (.bool)]
abbrev law02_QuoteUnits_q : List HPat := []
noncomputable def law02_QuoteUnits_rr {R : Type} (fn : law02_QuoteUnits_ty R) : Pat.dens law02_QuoteUnits_p → HPat.dens law02_QuoteUnits_q → (V → Heap → Option R) → Option R := fun x y k => fn x.1 x.2.1 (fun q0 => k (.bool q0) [])
noncomputable def law02_QuoteUnits_E (R : Type) (law02_awake : law02_awake_ty R) (law02_pick : law02_pick_ty R) (quote_Unquote : quote_Unquote_ty R) : Env R := fun i => match i with
  | 17 => some (true, (specBy law02_awake_p law02_awake_q (law02_awake_rr law02_awake) specNo))
  | 20 => some (true, (specBy law02_pick_p law02_pick_q (law02_pick_rr law02_pick) specNo))
  | 22 => some (true, (specBy quote_Unquote_p quote_Unquote_q (quote_Unquote_rr quote_Unquote) specNo))
  | _ => none
theorem law02_QuoteUnits_EOk (R : Type) : EOk Tryd.prog (law02_QuoteUnits_E R law02_awake law02_pick quote_Unquote) := by
  intro i b sp h
  unfold law02_QuoteUnits_E at h
  split at h
  · cases h; exact ⟨(law02_awake_S_ok R _ (specNo_ok _)), fun h => nomatch h⟩
  · cases h; exact ⟨(law02_pick_S_ok R _ (specNo_ok _)), fun h => nomatch h⟩
  · cases h; exact ⟨(quote_Unquote_S_ok R _ (specNo_ok _)), fun h => nomatch h⟩
  · cases h

noncomputable def law02_QuoteUnits_T (R : Type) : Nat → Option (Hint × LSpec R) := fun i => match i with
  | _ => none

noncomputable def law02_QuoteUnits_X {R : Type} (law02_awake : law02_awake_ty R) (law02_pick : law02_pick_ty R) (quote_Unquote : quote_Unquote_ty R) (x1 : Int) (x2 : Bool) (k0 : Bool → Option R) : Option R :=
  law02_awake (fun y3 => law02_pick x1 65536 (fun y4 => let j12 := fun (z5 : Str) => chk (decide ((0 : Int) ≤ (Int.fdiv y4 (2 ^ (min 12 IntKind.i64.bits)))) && decide ((Int.fdiv y4 (2 ^ (min 12 IntKind.i64.bits))) < z5.length)) (chk (decide ((0 : Int) ≤ (IntKind.i64.wrap ((BitVec.ofInt IntKind.i64.bits (Int.fdiv y4 (2 ^ (min 8 IntKind.i64.bits))) &&& BitVec.ofInt IntKind.i64.bits 15).toNat : Int))) && decide ((IntKind.i64.wrap ((BitVec.ofInt IntKind.i64.bits (Int.fdiv y4 (2 ^ (min 8 IntKind.i64.bits))) &&& BitVec.ofInt IntKind.i64.bits 15).toNat : Int)) < z5.length)) (chk (decide ((0 : Int) ≤ (IntKind.i64.wrap ((BitVec.ofInt IntKind.i64.bits (Int.fdiv y4 (2 ^ (min 4 IntKind.i64.bits))) &&& BitVec.ofInt IntKind.i64.bits 15).toNat : Int))) && decide ((IntKind.i64.wrap ((BitVec.ofInt IntKind.i64.bits (Int.fdiv y4 (2 ^ (min 4 IntKind.i64.bits))) &&& BitVec.ofInt IntKind.i64.bits 15).toNat : Int)) < z5.length)) (chk (decide ((0 : Int) ≤ (IntKind.i64.wrap ((BitVec.ofInt IntKind.i64.bits y4 &&& BitVec.ofInt IntKind.i64.bits 15).toNat : Int))) && decide ((IntKind.i64.wrap ((BitVec.ofInt IntKind.i64.bits y4 &&& BitVec.ofInt IntKind.i64.bits 15).toNat : Int)) < z5.length)) (chk (decide (3 + (List.map (fun n : Int => UInt8.ofNat n.toNat) ([((z5.getD ((Int.fdiv y4 (2 ^ (min 12 IntKind.i64.bits))).toNat) 0).toNat : Int), ((z5.getD ((IntKind.i64.wrap ((BitVec.ofInt IntKind.i64.bits (Int.fdiv y4 (2 ^ (min 8 IntKind.i64.bits))) &&& BitVec.ofInt IntKind.i64.bits 15).toNat : Int)).toNat) 0).toNat : Int), ((z5.getD ((IntKind.i64.wrap ((BitVec.ofInt IntKind.i64.bits (Int.fdiv y4 (2 ^ (min 4 IntKind.i64.bits))) &&& BitVec.ofInt IntKind.i64.bits 15).toNat : Int)).toNat) 0).toNat : Int), ((z5.getD ((IntKind.i64.wrap ((BitVec.ofInt IntKind.i64.bits y4 &&& BitVec.ofInt IntKind.i64.bits 15).toNat : Int)).toNat) 0).toNat : Int)] : List Int) : Str).length ≤ 9223372036854775807)) (chk (decide ((([34, 92, 117] : Str) ++ (List.map (fun n : Int => UInt8.ofNat n.toNat) ([((z5.getD ((Int.fdiv y4 (2 ^ (min 12 IntKind.i64.bits))).toNat) 0).toNat : Int), ((z5.getD ((IntKind.i64.wrap ((BitVec.ofInt IntKind.i64.bits (Int.fdiv y4 (2 ^ (min 8 IntKind.i64.bits))) &&& BitVec.ofInt IntKind.i64.bits 15).toNat : Int)).toNat) 0).toNat : Int), ((z5.getD ((IntKind.i64.wrap ((BitVec.ofInt IntKind.i64.bits (Int.fdiv y4 (2 ^ (min 4 IntKind.i64.bits))) &&& BitVec.ofInt IntKind.i64.bits 15).toNat : Int)).toNat) 0).toNat : Int), ((z5.getD ((IntKind.i64.wrap ((BitVec.ofInt IntKind.i64.bits y4 &&& BitVec.ofInt IntKind.i64.bits 15).toNat : Int)).toNat) 0).toNat : Int)] : List Int) : Str)).length + 1 ≤ 9223372036854775807)) (quote_Unquote ((([34, 92, 117] : Str) ++ (List.map (fun n : Int => UInt8.ofNat n.toNat) ([((z5.getD ((Int.fdiv y4 (2 ^ (min 12 IntKind.i64.bits))).toNat) 0).toNat : Int), ((z5.getD ((IntKind.i64.wrap ((BitVec.ofInt IntKind.i64.bits (Int.fdiv y4 (2 ^ (min 8 IntKind.i64.bits))) &&& BitVec.ofInt IntKind.i64.bits 15).toNat : Int)).toNat) 0).toNat : Int), ((z5.getD ((IntKind.i64.wrap ((BitVec.ofInt IntKind.i64.bits (Int.fdiv y4 (2 ^ (min 4 IntKind.i64.bits))) &&& BitVec.ofInt IntKind.i64.bits 15).toNat : Int)).toNat) 0).toNat : Int), ((z5.getD ((IntKind.i64.wrap ((BitVec.ofInt IntKind.i64.bits y4 &&& BitVec.ofInt IntKind.i64.bits 15).toNat : Int)).toNat) 0).toNat : Int)] : List Int) : Str)) ++ ([34] : Str)) (fun y6 y7 y8 => bif (decide (y4 ≥ (55296 : Int))) then (bif (decide (y4 ≤ (57343 : Int))) then (bif y3 then (bif (!y8) then (bif (y6 == ([] : Str)) then (k0 (y7 == 0)) else (k0 false)) else (k0 false)) else (k0 false)) else (bif y3 then (bif y8 then (bif (y7 == 8) then (k0 (y6 == (runesB ([(IntKind.i32.wrap y4)] : List Int)))) else (k0 false)) else (k0 false)) else (k0 false))) else (bif y3 then (bif y8 then (bif (y7 == 8) then (k0 (y6 == (runesB ([(IntKind.i32.wrap y4)] : List Int)))) else (k0 false)) else (k0 false)) else (k0 false))))))))); bif x2 then (j12 ([48, 49, 50, 51, 52, 53, 54, 55, 56, 57, 65, 66, 67, 68, 69, 70] : Str)) else (j12 ([48, 49, 50, 51, 52, 53, 54, 55, 56, 57, 97, 98, 99, 100, 101, 102] : Str))))
noncomputable def law02_QuoteUnits {R : Type} : law02_QuoteUnits_ty R := fun x1 x2 k0 => law02_QuoteUnits_X law02_awake law02_pick quote_Unquote x1 x2 k0
theorem law02_QuoteUnits_ok {R : Type} (law02_awake : law02_awake_ty R) (law02_pick : law02_pick_ty R) (quote_Unquote : quote_Unquote_ty R) (x1 : Int) (x2 : Bool) (k : V → Heap → Option R) : funK tt (law02_QuoteUnits_E R law02_awake law02_pick quote_Unquote) (law02_QuoteUnits_T R) false Tryd.f7 (codeOf Tryd.f7) [.int .i64 x1, .bool x2] [] k =
    law02_QuoteUnits_X law02_awake law02_pick quote_Unquote x1 x2 (fun q0 => k (.bool q0) []) := by kernel_rfl
theorem law02_QuoteUnits_loops (R : Type) : ∀ a ∈ loopsOf (codeOf Tryd.f7), LoopOk tt (law02_QuoteUnits_E R law02_awake law02_pick quote_Unquote) (law02_QuoteUnits_T R) 0 a := by
  refine loops_ok 0 (by kernel_rfl) fun i hi => ?_
  omega
theorem law02_QuoteUnits_S_ok (R : Type) (other : Yard.Spec R) (ho : Yard.Spec.Ok Tryd.prog 7 other) : Yard.Spec.Ok Tryd.prog 7 (specBy law02_QuoteUnits_p law02_QuoteUnits_q (law02_QuoteUnits_rr law02_QuoteUnits) other) :=
  specBy_ok ho (funK_sound TT mixed (law02_QuoteUnits_EOk R) (keep := false) rfl rfl rfl rfl 0 (law02_QuoteUnits_loops R)) fun (x : Pat.dens law02_QuoteUnits_p) (y : HPat.dens law02_QuoteUnits_q) k => law02_QuoteUnits_ok law02_awake law02_pick quote_Unquote x.1 x.2.1 k

end Go.Proofs.YtifgegmnngfckaaDoor

/-
  QuoteForth and QuoteUnits. Own work.
-/
set_option linter.unusedVariables false
set_option maxRecDepth 100000
namespace Go.Proofs.YtifgegmnngfckaaDoor
open Go Go.Yard Go.Lib

theorem uq_enc : ∀ (n : Nat) (s o o' r : Str), uq n s o = some (o', r) → (∃ rs : List Nat, (∀ c ∈ rs, vr c) ∧ o' = o ++ encL rs ∧ rs.length ≤ s.length) ∧ r.length + 1 ≤ s.length
  | 0, _, _, _, _, h => by cases h
  | n + 1, s, o, o', r, h => by
    simp only [uq] at h
    split at h
    · rename_i hp
      simp only [Option.some.injEq, Prod.mk.injEq] at h
      obtain ⟨rfl, rfl⟩ := h
      have hl : 1 ≤ s.length := by
        cases s with
        | nil => cases hp
        | cons b t => simp
      exact ⟨⟨[], by simp, by simp [encL], by simp⟩, by rw [List.length_drop]; omega⟩
    · cases hs : stepU s with
      | none => rw [hs] at h; cases h
      | some p =>
        obtain ⟨c, r1⟩ := p
        rw [hs] at h
        obtain ⟨hv, hl⟩ := stepU_ok hs
        obtain ⟨⟨rs, h1, h2, h3⟩, h4⟩ := uq_enc n r1 (o ++ enc c) o' r h
        refine ⟨⟨c :: rs, fun x hx => ?_, ?_, by simp only [List.length_cons]; omega⟩, by omega⟩
        · rcases List.mem_cons.1 hx with rfl | hx
          · exact hv
          · exact h1 x hx
        · rw [h2]; simp [encL]

theorem uqS_enc {s o r : Str} (h : uqS s = some (o, r)) : (∃ rs : List Nat, (∀ c ∈ rs, vr c) ∧ o = encL rs ∧ rs.length ≤ s.length) ∧ r.length + 2 ≤ s.length := by
  unfold uqS at h
  split at h
  · rename_i hp
    obtain ⟨⟨rs, h1, h2, h3⟩, h4⟩ := uq_enc _ _ _ _ _ h
    rw [List.length_drop] at h3 h4
    exact ⟨⟨rs, h1, by simpa using h2, by omega⟩, by omega⟩
  · cases h

theorem forth_round {R : Type} {l : List Str} (hlen : l.length ≤ 2) {i : Nat} (hi : i < l.length) {s : Str} (hg : l[i]? = some s) (hs : s.length ≤ 9000000) (y : Bool)
    (rec' : Bool → (List Str) → Int → Int → Option R) (e0 : Bool → Option R) (e1 : Bool → Bool → Option R) :
    law02_QuoteForth_5_0_B quote_Quote quote_Unquote quote_Whole rec' y l (l.length : Int) (i : Int) e0 e1 = rec' y l (l.length : Int) ((i + 1 : Nat) : Int) := by
  unfold law02_QuoteForth_5_0_B
  have hget : l.getD (i : Int).toNat (Ty.dflt .str) = s := by
    rw [Int.toNat_natCast]
    show (l[i]?).getD _ = s
    rw [hg]
    rfl
  have hw : IntKind.i64.wrap ((i : Int) + 1) = ((i + 1 : Nat) : Int) := by rw [wrap_id (by omega) (by omega)]; omega
  rw [dtrue (show (i : Int) < (l.length : Int) by omega), cond_true, chk_pos (by rw [dtrue (show (0 : Int) ≤ (i : Int) by omega)]; rfl), hget, hw, unquote_ok _ (by omega)]
  cases hu : uqS s with
  | none => rfl
  | some p =>
    obtain ⟨o, r⟩ := p
    obtain ⟨⟨rs, h1, rfl, h3⟩, h4⟩ := uqS_enc hu
    have hq := qcL_count rs h1
    have hl := qt_len rs
    have hv : validS (encL rs) = true := whole_iff.2 ⟨rs, h1, rfl⟩
    have hu2 := uqS_qt rs h1 []
    rw [List.append_nil] at hu2
    simp only [Bool.not_true, cond_false, quote_ok rs h1 (show rs.length ≤ 10000000000 by omega), whole_eq, hv]
    rw [unquote_ok _ (by omega), hu2]
    have e : IntKind.i64.wrap (((qt rs).length : Int) - (([] : Str).length : Int)) = ((qt rs).length : Int) := by
      rw [wrap_id (by simp) (by simp only [List.length_nil]; omega)]; simp
    have e2 : IntKind.i64.wrap ((s.length : Int) - (r.length : Int)) = (s.length : Int) - (r.length : Int) := wrap_id (by omega) (by omega)
    simp only [e, e2, Bool.not_true, cond_false, BEq.rfl]
    have e3 : (((qt rs).length : Int) != ((qt rs).length : Int)) = false := by simp
    rw [e3, cond_false, dfalse (show ¬ (s.length : Int) - (r.length : Int) < 2 by omega), cond_false, dfalse (show ¬ (s.length : Int) - (r.length : Int) > (s.length : Int) by omega), cond_false]

theorem quoteForth_true {R : Type} (s : Str) (raw : List Int) (at_ : Int) (more : Str) (hs : Small 1048576 (.str s)) (hr : Small 1048576 (.sl (.int .i64) raw .no)) (ha : Small 1048576 (.int .i64 at_)) (hm : Small 1048576 (.str more)) (k : Bool → Option R) :
    law02_QuoteForth s raw at_ more k = k true := by
  obtain ⟨rs, h1, h2, h3⟩ := text_ok (R := R) raw (small_i64 hr).2
  have hsl := hs.str_inv
  have hml := hm.str_inv
  have hai := i64_has.1 ha.int_inv
  have hcount := encL_count rs h1
  have hq := qcL_count rs h1
  have hl := qt_len rs
  have e : law02_QuoteForth s raw at_ more k = law02_QuoteForth_X law02_awake law02_Text law02_pick quote_Quote law02_QuoteForth_5_0_L s raw at_ more k := rfl
  rw [e]
  unfold law02_QuoteForth_X
  rw [awake02]
  simp only [h3, quote_ok rs h1 (by omega)]
  have ew : IntKind.i64.wrap (((qt rs).length : Int) + 1) = ((qt rs).length : Int) + 1 := wrap_id (by omega) (by omega)
  obtain ⟨p, p0, p1, hp⟩ := pick02 (R := R) at_ (((qt rs).length : Int) + 1) hai (by omega) (by omega)
  have c1 : (([34] : Str) ++ s).length = s.length + 1 := by simp
  have c2 : ((List.drop 0 (qt rs)).take (p.toNat - 0)).length ≤ (qt rs).length := by rw [List.length_take, List.length_drop]; omega
  have c3 : ((List.drop p.toNat (qt rs)).take (((qt rs).length : Int).toNat - p.toNat)).length ≤ (qt rs).length := by rw [List.length_take, List.length_drop]; omega
  rw [ew, hp, chk_pos (dtrue (by omega)), chk_pos (dtrue (by omega)), chk_pos (by rw [dtrue p0, dtrue (by omega)]; rfl), chk_pos (dtrue p0), chk_pos (dtrue (by omega)),
    chk_pos (by rw [dtrue (show (0 : Int) ≤ ((qt rs).length : Int) by omega), dtrue (show ((qt rs).length : Int) ≤ (qt rs).length by omega)]; rfl), chk_pos (by rw [dtrue p0, dtrue (by omega)]; rfl), chk_pos (dtrue (by rw [List.length_append]; omega))]
  generalize hA : (([34] : Str) ++ s) ++ ([34] : Str) = A
  generalize hB : ((List.drop 0 (qt rs)).take (p.toNat - 0) ++ more) ++ (List.drop p.toNat (qt rs)).take (((qt rs).length : Int).toNat - p.toNat) = B
  have lA : A.length ≤ 9000000 := by rw [← hA, List.length_append, c1]; simp only [List.length_cons, List.length_nil]; omega
  have lB : B.length ≤ 9000000 := by rw [← hB, List.length_append, List.length_append]; omega
  have key : ∀ (F : Nat) (e0 : Bool → Option R) (e1 : Bool → Bool → Option R), law02_QuoteForth_5_0_L (F + 3) true [A, B] 2 0 e0 e1 = e0 true := by
    intro F e0 e1
    have s1 : law02_QuoteForth_5_0_L (F + 3) true [A, B] 2 0 e0 e1 = law02_QuoteForth_5_0_B quote_Quote quote_Unquote quote_Whole (fun x0' x1' x2' x3' => law02_QuoteForth_5_0_L (F + 2) x0' x1' x2' x3' e0 e1) true [A, B] (([A, B] : List Str).length : Int) ((0 : Nat) : Int) e0 e1 := rfl
    rw [s1, forth_round (by simp) (by simp) (by rfl) lA]
    have s2 : law02_QuoteForth_5_0_L (F + 2) true [A, B] (([A, B] : List Str).length : Int) ((0 + 1 : Nat) : Int) e0 e1 = law02_QuoteForth_5_0_B quote_Quote quote_Unquote quote_Whole (fun x0' x1' x2' x3' => law02_QuoteForth_5_0_L (F + 1) x0' x1' x2' x3' e0 e1) true [A, B] (([A, B] : List Str).length : Int) ((1 : Nat) : Int) e0 e1 := rfl
    rw [s2, forth_round (by simp) (by simp) (by rfl) lB]
    rfl
  have hF : List.length ([A, B] : List Str) + Int.natAbs 2 + Int.natAbs 0 + 64 = 65 + 3 := rfl
  rw [hF, key]

/-! ### QuoteUnits -/
theorem and15 (n : Nat) (h : n < 65536) : IntKind.i64.wrap ((BitVec.ofInt IntKind.i64.bits (n : Int) &&& BitVec.ofInt IntKind.i64.bits 15).toNat : Int) = ((n % 16 : Nat) : Int) := by
  have h1 : (BitVec.ofInt IntKind.i64.bits (n : Int)).toNat = n := by
    rw [BitVec.toNat_ofInt]
    show ((n : Int) % ((2 ^ 64 : Nat) : Int)).toNat = n
    omega
  have h2 : (BitVec.ofInt IntKind.i64.bits 15).toNat = 15 := by decide
  rw [BitVec.toNat_and, h1, h2]
  have h3 : n &&& 15 = n % 16 := Nat.and_two_pow_sub_one_eq_mod n 4
  rw [h3, wrap_id (by omega) (by omega)]
theorem shr64 (c n : Nat) (h : n ≤ 64) : Int.fdiv (c : Int) (2 ^ (min n IntKind.i64.bits)) = ((c / 2 ^ n : Nat) : Int) := by
  have e : min n IntKind.i64.bits = n := Nat.min_eq_left h
  rw [e, Int.fdiv_eq_ediv_of_nonneg _ (by exact Int.le_of_lt (Int.pow_pos (by omega)))]
  rw [Int.natCast_ediv]
  congr 1

def upS : Str := [48, 49, 50, 51, 52, 53, 54, 55, 56, 57, 65, 66, 67, 68, 69, 70]
theorem hexv_lo : ∀ i : Fin 16, hexv (hexS.getD i.val 0) = some i.val := by decide +kernel
theorem hexv_up : ∀ i : Fin 16, hexv (upS.getD i.val 0) = some i.val := by decide +kernel

theorem unit_text {z : Str} (hz : ∀ i : Fin 16, hexv (z.getD i.val 0) = some i.val) {v : Nat} (hv : v < 65536) :
    uqS (34 :: 92 :: 117 :: z.getD (v / 4096) 0 :: z.getD (v / 256 % 16) 0 :: z.getD (v / 16 % 16) 0 :: z.getD (v % 16) 0 :: [34]) = if v < 55296 ∨ 57344 ≤ v then some (enc v, []) else none := by
  have hu : unitP (z.getD (v / 4096) 0 :: z.getD (v / 256 % 16) 0 :: z.getD (v / 16 % 16) 0 :: z.getD (v % 16) 0 :: [34]) = some (v, [34]) := by
    unfold unitP
    rw [if_neg (by simp only [List.length_cons]; omega)]
    have e : List.take 4 (z.getD (v / 4096) 0 :: z.getD (v / 256 % 16) 0 :: z.getD (v / 16 % 16) 0 :: z.getD (v % 16) 0 :: [34]) = [z.getD (v / 4096) 0, z.getD (v / 256 % 16) 0, z.getD (v / 16 % 16) 0, z.getD (v % 16) 0] := rfl
    have d3 := hz ⟨v / 4096, by omega⟩
    have d2 := hz ⟨v / 256 % 16, by omega⟩
    have d1 := hz ⟨v / 16 % 16, by omega⟩
    have d0 := hz ⟨v % 16, by omega⟩
    simp only at d3 d2 d1 d0
    rw [e]
    simp only [hexN, d3, d2, d1, d0]
    have : 16 * (16 * (16 * (16 * 0 + v / 4096) + v / 256 % 16) + v / 16 % 16) + v % 16 = v := by omega
    rw [this]
    rfl
  generalize z.getD (v / 4096) 0 = a at *
  generalize z.getD (v / 256 % 16) 0 = b at *
  generalize z.getD (v / 16 % 16) 0 = c at *
  generalize z.getD (v % 16) 0 = d at *
  unfold uqS
  rw [pre_cons]
  simp only [BEq.rfl, if_true, List.drop_succ_cons, List.drop_zero]
  have hstep : stepU (92 :: 117 :: a :: b :: c :: d :: [34]) = longP (a :: b :: c :: d :: [34]) := rfl
  have hlen : (34 :: 92 :: 117 :: a :: b :: c :: d :: ([34] : Str)).length + 1 = 7 + 1 + 1 := rfl
  rw [hlen]
  have hp : ([34] : Str).isPrefixOf (92 :: 117 :: a :: b :: c :: d :: [34]) = false := rfl
  have hunf : ∀ (n : Nat) (s o : Str), uq (n + 1) s o = if ([34] : Str).isPrefixOf s then some (o, s.drop 1) else match stepU s with | none => none | some (c, r) => uq n r (o ++ enc c) := fun _ _ _ => rfl
  rw [hunf, hp, hstep]
  simp only [Bool.false_eq_true, if_false]
  unfold longP
  rw [hu]
  simp only
  by_cases h1 : v < 55296 ∨ 57344 ≤ v
  · rw [if_pos h1, if_pos h1]
    rfl
  · rw [if_neg h1, if_neg h1]
    by_cases h2 : 56320 ≤ v
    · rw [if_pos h2]
    · rw [if_neg h2]
      rfl

theorem quoteUnits_true {R : Type} (n : Int) (great : Bool) (hn : Small 1048576 (.int .i64 n)) (hg : Small 1048576 (.bool great)) (k : Bool → Option R) : law02_QuoteUnits n great k = k true := by
  have hni := i64_has.1 hn.int_inv
  have e : law02_QuoteUnits n great k = law02_QuoteUnits_X law02_awake law02_pick quote_Unquote n great k := rfl
  rw [e]
  unfold law02_QuoteUnits_X
  rw [awake02]
  obtain ⟨p, p0, p1, hp⟩ := pick02 (R := R) n 65536 hni (by omega) (by omega)
  obtain ⟨v, rfl⟩ := Int.eq_ofNat_of_zero_le p0
  have hv : v < 65536 := by omega
  rw [hp]
  dsimp only
  have a3 := shr64 v 12 (by omega)
  have a2 := shr64 v 8 (by omega)
  have a1 := shr64 v 4 (by omega)
  have p12 : v / 2 ^ 12 = v / 4096 := rfl
  have p8 : v / 2 ^ 8 = v / 256 := rfl
  have p4 : v / 2 ^ 4 = v / 16 := rfl
  rw [p12] at a3; rw [p8] at a2; rw [p4] at a1
  rw [a3, a2, a1, and15 (v / 256) (by omega), and15 (v / 16) (by omega), and15 v hv]
  simp only [Int.toNat_natCast]
  have key : ∀ z : Str, z.length = 16 → (∀ i : Fin 16, hexv (z.getD i.val 0) = some i.val) →
      (chk (decide ((0 : Int) ≤ ((v / 4096 : Nat) : Int)) && decide (((v / 4096 : Nat) : Int) < z.length)) (chk (decide ((0 : Int) ≤ ((v / 256 % 16 : Nat) : Int)) && decide (((v / 256 % 16 : Nat) : Int) < z.length)) (chk (decide ((0 : Int) ≤ ((v / 16 % 16 : Nat) : Int)) && decide (((v / 16 % 16 : Nat) : Int) < z.length)) (chk (decide ((0 : Int) ≤ ((v % 16 : Nat) : Int)) && decide (((v % 16 : Nat) : Int) < z.length))
        (chk (decide (3 + (List.map (fun n : Int => UInt8.ofNat n.toNat) ([((z.getD (v / 4096) 0).toNat : Int), ((z.getD (v / 256 % 16) 0).toNat : Int), ((z.getD (v / 16 % 16) 0).toNat : Int), ((z.getD (v % 16) 0).toNat : Int)] : List Int) : Str).length ≤ 9223372036854775807))
        (chk (decide ((([34, 92, 117] : Str) ++ (List.map (fun n : Int => UInt8.ofNat n.toNat) ([((z.getD (v / 4096) 0).toNat : Int), ((z.getD (v / 256 % 16) 0).toNat : Int), ((z.getD (v / 16 % 16) 0).toNat : Int), ((z.getD (v % 16) 0).toNat : Int)] : List Int) : Str)).length + 1 ≤ 9223372036854775807))
        (quote_Unquote ((([34, 92, 117] : Str) ++ (List.map (fun n : Int => UInt8.ofNat n.toNat) ([((z.getD (v / 4096) 0).toNat : Int), ((z.getD (v / 256 % 16) 0).toNat : Int), ((z.getD (v / 16 % 16) 0).toNat : Int), ((z.getD (v % 16) 0).toNat : Int)] : List Int) : Str)) ++ ([34] : Str)) (fun y6 y7 y8 => bif (decide ((v : Int) ≥ (55296 : Int))) then (bif (decide ((v : Int) ≤ (57343 : Int))) then (bif true then (bif (!y8) then (bif (y6 == ([] : Str)) then (k (y7 == 0)) else (k false)) else (k false)) else (k false)) else (bif true then (bif y8 then (bif (y7 == 8) then (k (y6 == (runesB ([(IntKind.i32.wrap (v : Int))] : List Int)))) else (k false)) else (k false)) else (k false))) else (bif true then (bif y8 then (bif (y7 == 8) then (k (y6 == (runesB ([(IntKind.i32.wrap (v : Int))] : List Int)))) else (k false)) else (k false)) else (k false)))))))))) = k true := by
    intro z hz hx
    have em : (List.map (fun n : Int => UInt8.ofNat n.toNat) ([((z.getD (v / 4096) 0).toNat : Int), ((z.getD (v / 256 % 16) 0).toNat : Int), ((z.getD (v / 16 % 16) 0).toNat : Int), ((z.getD (v % 16) 0).toNat : Int)] : List Int) : Str) = [z.getD (v / 4096) 0, z.getD (v / 256 % 16) 0, z.getD (v / 16 % 16) 0, z.getD (v % 16) 0] := by
      simp only [List.map_cons, List.map_nil, Int.toNat_natCast, UInt8.ofNat_toNat]
    rw [em, hz]
    have el : ∀ a b c d : UInt8, ([a, b, c, d] : Str).length = 4 := fun _ _ _ _ => rfl
    have el2 : ∀ a b c d : UInt8, (([34, 92, 117] : Str) ++ [a, b, c, d]).length = 7 := fun _ _ _ _ => rfl
    rw [el, el2, chk_pos (by rw [dtrue (by omega), dtrue (by omega)]; rfl), chk_pos (by rw [dtrue (by omega), dtrue (by omega)]; rfl), chk_pos (by rw [dtrue (by omega), dtrue (by omega)]; rfl), chk_pos (by rw [dtrue (by omega), dtrue (by omega)]; rfl), chk_pos (dtrue (by omega)), chk_pos (dtrue (by omega))]
    have es : (([34, 92, 117] : Str) ++ [z.getD (v / 4096) 0, z.getD (v / 256 % 16) 0, z.getD (v / 16 % 16) 0, z.getD (v % 16) 0]) ++ ([34] : Str) = 34 :: 92 :: 117 :: z.getD (v / 4096) 0 :: z.getD (v / 256 % 16) 0 :: z.getD (v / 16 % 16) 0 :: z.getD (v % 16) 0 :: [34] := rfl
    rw [es, unquote_ok _ (by simp only [List.length_cons, List.length_nil]; omega), unit_text hx hv]
    by_cases h1 : v < 55296 ∨ 57344 ≤ v
    · rw [if_pos h1]
      simp only
      have hvr : vr v := by unfold vr; omega
      have hr : runesB ([(IntKind.i32.wrap (v : Int))] : List Int) = enc v := by rw [wrap32s (by omega)]; exact runesB_enc hvr
      have h8 : ∀ a b c d : UInt8, IntKind.i64.wrap (((34 :: 92 :: 117 :: a :: b :: c :: d :: ([34] : Str)).length : Int) - (([] : Str).length : Int)) = 8 := fun _ _ _ _ => (by decide : IntKind.i64.wrap (((8 : Nat) : Int) - ((0 : Nat) : Int)) = 8)
      rw [hr, h8]
      by_cases h2 : v < 55296
      · rw [dfalse (show ¬ (v : Int) ≥ 55296 by omega)]
        simp
      · rw [dtrue (show (v : Int) ≥ 55296 by omega), dfalse (show ¬ (v : Int) ≤ 57343 by omega)]
        simp
    · rw [if_neg h1]
      simp only
      rw [dtrue (show (v : Int) ≥ 55296 by omega), dtrue (show (v : Int) ≤ 57343 by omega)]
      rfl
  cases great with
  | true => exact key upS rfl hexv_up
  | false => exact key hexS rfl hexv_lo
end Go.Proofs.YtifgegmnngfckaaDoor

/-
  QuoteUnits: the statement where what it reads is of bulk at most 1048576: for every such input the law returns true, and each argument reads behind the call as it read before. Out of the plain law; printed by wip/tools/row.py.
-/
set_option linter.unusedVariables false
set_option maxRecDepth 100000
namespace Go.Proofs.YtifgegmnngfckaaDoor.quoteUnits
open Go.ChangeShapes Go.WideShapes Go.ChangeAt Go.RowKit Go.Yard Door

theorem run (a0 : Int) (a1 : Bool) : specBy law02_QuoteUnits_p law02_QuoteUnits_q (law02_QuoteUnits_rr law02_QuoteUnits) specNo [.int .i64 a0, .bool a1] [] kOk = law02_QuoteUnits a0 a1 (fun q0 => kOk (.bool q0) []) := by kernel_rfl

theorem contract (H : Type) (enc : TypeId × Value → H) (W : World) (base : Nat) (args : Array Value) (ds gs : List (DataW H)) (before : List MemPlace)
    (hval : ∀ (j : Nat) t v, Tryd.f7.params[j]? = some t → args[j]? = some v → Value.okWide Tryd.prog W .any base t v)
    (hW : DataW.Whole enc Tryd.prog Tryd.f7.params.toList Rows.quoteUnitsSpec.vars false W args.toList ds gs before) (hL : laidMetH Tryd.prog Rows.quoteUnitsUptoRow.laid W) (hk : Rows.uptoSmall H (ds ++ gs) = true) :
    Calls Tryd.prog 7 args W fun e W' => ∃ v, e = .returned v ∧ Rows.quoteUnitsSpec.post enc Tryd.prog Tryd.f7 false true false false W args v W' := by
  have hW' := hW
  obtain ⟨p, q, hA0, hV, hpq, hfz, hnd⟩ := hW
  have hA : DataW.TrodAll enc Tryd.prog W 0 (fun _ => true) true [3, 4] args.toList ds p := hA0
  have hval : ∀ (j : Nat) t v, (#[3, 4] : Array Nat)[j]? = some t → args[j]? = some v → Value.okWide Tryd.prog W .any base t v := hval
  obtain ⟨v0, vs0, d0, ds0, p0, q0, hargs, rfl, rfl, h0, r0⟩ := trodAll_cons hA
  obtain ⟨v1, vs1, d1, ds1, p1, q1, rfl, rfl, rfl, h1, r1⟩ := trodAll_cons r0
  obtain ⟨rfl, rfl, rfl⟩ := trodAll_nil r1
  obtain rfl : args = #[v0, v1] := by cases args; simp_all
  have hV' : DataW.TrodVars enc Tryd.prog W (fun _ => true) [] gs q := hV
  obtain ⟨rfl, rfl⟩ := trodVars_none hV'
  have hb : Rows.uptoBulkAll ([d0, d1] ++ []) ≤ 1048576 := of_decide_eq_true hk
  simp only [List.append_nil, Rows.uptoBulkAll] at hb
  obtain ⟨a0, q0, s0⟩ := arg_one (p := .int .i64) (N := 1048576) leaves (by kernel_rfl) (by kernel_rfl) (hval 0 3 v0 rfl rfl) h0 (by omega) (Nat.le_of_ble_eq_true rfl)
  obtain ⟨a1, q1, s1⟩ := arg_one (p := .bool) (N := 1048576) leaves (by kernel_rfl) (by kernel_rfl) (hval 1 4 v1 rfl rfl) h1 (by omega) (Nat.le_of_ble_eq_true rfl)
  have ra : RepL W [] cfg0 [.int .i64 a0, .bool a1] #[v0, v1].toList := (.cons q0 (.cons q1 .nil))
  obtain ⟨hsays, hblocks⟩ := lay_met (W := W) hL
  refine (calls_true Tryd.func7 rfl rfl (law02_QuoteUnits_S_ok Unit _ (specNo_ok _)) hsays hblocks ra ((run a0 a1).trans (quoteUnits_true a0 a1 s0 s1 (fun q0 => kOk (.bool q0) [])))).mono fun e W' ⟨he, L⟩ => ⟨_, he, ?_⟩
  exact post_true (by kernel_rfl) (params_ok (by kernel_rfl)) rfl rfl rfl (show Tryd.prog.underlying 4 = some .bool by kernel_rfl) hW' L

theorem reads (os : Os) {H : Type} (enc : TypeId × Value → H) : (DataW.whole enc Tryd.prog ((laidWorld os).forCall (fun _ _ => 0) ⟨#[], #[.int .i64 0, .bool false], []⟩).memory Tryd.f7.params.toList Rows.quoteUnitsSpec.vars false (#[.int .i64 0, .bool false] : Array Value).toList 8).map (fun x => (x.1, x.2.1)) = some ([.lit (.int .i64 0), .lit (.bool false)], []) := by kernel_rfl
theorem lifted (os : Os) (started : os.Started) (H : Type) (enc : TypeId × Value → H) (F : Stop.Interp) :
    ReturnsInHanded {} Tryd.checked os 7 .any ((Rows.OpenSpec.upto Rows.quoteUnitsSpec).preRow enc Tryd.prog Tryd.f7 Rows.quoteUnitsUptoRow.domain false Rows.quoteUnitsUptoRow.laid) (((Rows.OpenSpec.upto Rows.quoteUnitsSpec).at F).post enc Tryd.prog Tryd.f7 false true false false) := by
  obtain ⟨⟨x1, x2, x3⟩, hx, hx1⟩ := Option.map_eq_some_iff.1 (reads os enc)
  simp only [Prod.mk.injEq] at hx1
  obtain ⟨rfl, rfl⟩ := hx1
  refine returnsInHanded_of_row (C := Tryd.checked) (s := Rows.OpenSpec.upto Rows.quoteUnitsSpec) own started (by kernel_rfl) Tryd.func7
    (witness_row_atRef (enc := enc) (C := Tryd.checked) false (laidWorld os) #[.int .i64 0, .bool false] rfl (by kernel_rfl) (by kernel_rfl) (by kernel_rfl)
      (OpenSpec.preRow_of_cond 8 hx (by kernel_rfl) (fun k hk => by cases hk; kernel_rfl) (by kernel_rfl) (laid_met os _))) ?_
  intro W base args ds gs before hval hW _ hcond _ hL _ _
  exact contract H enc W base args ds gs before hval hW hL (hcond _ rfl)

theorem saidUpto : Rows.QuoteUnitsUptoSaid :=
  OpenClaim.holds_of_cond 7 Tryd.f7 rfl rfl rfl rfl rfl rfl rfl ⟨rfl, rfl, rfl, rfl, rfl⟩ rfl rfl rfl rfl rfl (by kernel_rfl) Tryd.func7 (by kernel_rfl)
    (of_decide_eq_true (by kernel_rfl)) (by unfold Func.isWrapper; first | (rw [if_pos (by decide +kernel)]; kernel_rfl) | (rw [if_neg (by decide +kernel)]; exact ⟨rfl, rfl⟩))
    (fun os started H enc _ F => by rw [OpenClaim.pre_eq_preRow]; exact lifted os started H enc F)

theorem plain (f : FuncId) (fn : Func) (hf : Tryd.pinned.checked.prog.funcNamed "humpyard/humpyardlaw02.QuoteUnits" = some f) (hfn : Tryd.pinned.checked.prog.funcs[f]? = some fn) :
    true = Tryd.pinned.checked.prog.looks [] ∧ ∀ (j : Nat) t, fn.params[j]? = some t → Tryd.pinned.checked.prog.wantsStandIn t = false := by
  obtain rfl : f = 7 := Option.some.inj ((show Tryd.prog.funcNamed "humpyard/humpyardlaw02.QuoteUnits" = some 7 by kernel_rfl).symm.trans hf) |>.symm
  obtain rfl : fn = Tryd.f7 := (Option.some.inj (Tryd.func7.symm.trans hfn)).symm
  refine ⟨by kernel_rfl, fun j t ht => ?_⟩
  have hall : Tryd.f7.params.toList.all (fun t => !Tryd.prog.wantsStandIn t) = true := by kernel_rfl
  have hm : t ∈ Tryd.f7.params.toList := Array.mem_toList_iff.2 (Array.mem_of_getElem? ht)
  have := List.all_eq_true.1 hall t hm
  exact (show Tryd.prog.wantsStandIn t = false by simpa using this)
end Go.Proofs.YtifgegmnngfckaaDoor.quoteUnits
namespace Go.Proofs.YtifgegmnngfckaaDoor
open Go.RowKit
/-- THE SECOND FORM's CARD. -/
theorem quoteUnits_card_upto : Rows.QuoteUnitsUptoCardSaid :=
  Claim7.holds_tied_plain_at .later [] _ _ _ _ quoteUnits.saidUpto (fun _ h => by cases h) (by kernel_rfl) (fun _ h => by cases h) quoteUnitsUpto_row_tie rfl ⟨rfl, rfl⟩ (by kernel_rfl) rfl quoteUnits.plain (by kernel_rfl)
end Go.Proofs.YtifgegmnngfckaaDoor

