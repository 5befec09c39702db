/-
  LexerTells: for every input whose bulk is at most 1048576 the law returns true, and each argument reads behind the call as it read before; part 8 of 9 of the proof: an interpreter of the model's code over typed data, proved sound; the functions that the law reaches, printed as Lean functions and tied; the plain law. Own texts laid one behind the other.
-/
import Derived.Lib.ItoaMem
import Derived.Test.YtmlkkgfenfdndaaDoorLexerTellsB7
set_option linter.unusedSimpArgs false
set_option linter.unnecessarySimpa false
set_option linter.unusedVariables false
set_option linter.unusedSectionVars false
/-
  Functions of the program as pure Lean functions, and the ties; printed by wip/tools/emit.py.
-/
set_option maxRecDepth 100000
set_option linter.unusedVariables false
namespace Go.Proofs.YtmlkkgfenfdndaaDoor
open Go Go.Yard

/-! ### humpyard/humpyardref02.four -/
abbrev ref02_four_ty (R : Type) : Type := Str → Int → (Int → Option R) → Option R
abbrev ref02_four_p : List Pat := [.leaf (.str), .leaf (.int .i64)]
abbrev ref02_four_q : List HPat := []
noncomputable def ref02_four_rr {R : Type} (fn : ref02_four_ty R) : Pat.dens ref02_four_p → HPat.dens ref02_four_q → (V → Heap → Option R) → Option R := fun x y k => fn x.1 x.2.1 (fun q0 => k (.int .i64 q0) [])
abbrev ref02_four_5_0_ty (R : Type) : Type := Nat → Str → Int → Int → Int → (Int → Option R) → (Int → Int → Option R) → Option R
noncomputable def ref02_four_E (R : Type) : Env R := fun i => match i with
  | _ => none
theorem ref02_four_EOk (R : Type) : EOk Tryd.prog (ref02_four_E R) := by
  intro i b sp h
  unfold ref02_four_E at h
  split at h
  · cases h

noncomputable def ref02_four_5_0_B {R : Type} (rec' : Str → Int → Int → Int → Option R) (x3 : Str) (x4 : Int) (x5 : Int) (x6 : Int) (e0 : Int → Option R) (e1 : Int → Int → Option R) : Option R :=
  bif (decide (x6 < (IntKind.i64.wrap (x4 + 4)))) then (chk (decide ((0 : Int) ≤ x6) && decide (x6 < x3.length)) (let j12 := fun (z7 : Bool) => bif z7 then (rec' x3 x4 (IntKind.i64.wrap ((IntKind.i64.wrap (16 * x5)) + (IntKind.i64.wrap (IntKind.u8.wrap (((x3.getD x6.toNat 0).toNat : Int) - 48))))) (IntKind.i64.wrap (x6 + 1))) else (bif (decide (((x3.getD x6.toNat 0).toNat : Int) ≥ (97 : Int))) then (bif (decide (((x3.getD x6.toNat 0).toNat : Int) ≤ (102 : Int))) then (rec' x3 x4 (IntKind.i64.wrap ((IntKind.i64.wrap (16 * x5)) + (IntKind.i64.wrap ((IntKind.i64.wrap (IntKind.u8.wrap (((x3.getD x6.toNat 0).toNat : Int) - 97))) + 10)))) (IntKind.i64.wrap (x6 + 1))) else (bif (decide (((x3.getD x6.toNat 0).toNat : Int) ≥ (65 : Int))) then (bif (decide (((x3.getD x6.toNat 0).toNat : Int) ≤ (70 : Int))) then (rec' x3 x4 (IntKind.i64.wrap ((IntKind.i64.wrap (16 * x5)) + (IntKind.i64.wrap ((IntKind.i64.wrap (IntKind.u8.wrap (((x3.getD x6.toNat 0).toNat : Int) - 65))) + 10)))) (IntKind.i64.wrap (x6 + 1))) else (e1 (-1) x5)) else (e1 (-1) x5))) else (bif (decide (((x3.getD x6.toNat 0).toNat : Int) ≥ (65 : Int))) then (bif (decide (((x3.getD x6.toNat 0).toNat : Int) ≤ (70 : Int))) then (rec' x3 x4 (IntKind.i64.wrap ((IntKind.i64.wrap (16 * x5)) + (IntKind.i64.wrap ((IntKind.i64.wrap (IntKind.u8.wrap (((x3.getD x6.toNat 0).toNat : Int) - 65))) + 10)))) (IntKind.i64.wrap (x6 + 1))) else (e1 (-1) x5)) else (e1 (-1) x5))); bif (decide (((x3.getD x6.toNat 0).toNat : Int) ≥ (48 : Int))) then (j12 (decide (((x3.getD x6.toNat 0).toNat : Int) ≤ (57 : Int)))) else (j12 false))) else (e0 x5)
noncomputable def ref02_four_5_0_L {R : Type} : ref02_four_5_0_ty R
  | 0, _, _, _, _, _, _ => none
  | n + 1, x0', x1', x2', x3', e0, e1 => ref02_four_5_0_B (fun x0' x1' x2' x3' => ref02_four_5_0_L n x0' x1' x2' x3' e0 e1) x0' x1' x2' x3' e0 e1
noncomputable def ref02_four_5_0_h : Hint := { live := [0, 1, 5, 6], own := [], rows := [], cells := [], drop := [], out := [4, 5] }
abbrev ref02_four_5_0_D : Type := Str × Int × Int × Int
noncomputable def ref02_four_5_0_enc : ref02_four_5_0_D → St := fun d => ⟨[.str d.1, .int .i64 d.2.1, .undef, .undef, .undef, .int .i64 d.2.2.1, .int .i64 d.2.2.2, .undef, .undef, .undef, .undef, .undef, .undef, .undef, .undef, .undef, .undef, .undef, .undef, .undef, .undef, .undef, .undef, .undef, .undef, .undef, .undef, .undef, .undef, .undef, .undef, .undef, .undef, .undef, .undef, .undef, .undef, .undef, .undef, .undef, .undef, .undef, .undef, .undef, .undef, .undef, .undef, .undef, .undef, .undef, .undef, .undef, .undef, .undef, .undef, .undef, .undef, .undef, .undef, .undef, .undef], []⟩
noncomputable def ref02_four_5_0_x0 {R : Type} (K : Ex → St → Option R) (q0 : Int) : Option R := K (.exit 0) ⟨[.undef, .undef, .undef, .undef, .undef, .int .i64 q0, .undef, .undef, .undef, .undef, .undef, .undef, .undef, .undef, .undef, .undef, .undef, .undef, .undef, .undef, .undef, .undef, .undef, .undef, .undef, .undef, .undef, .undef, .undef, .undef, .undef, .undef, .undef, .undef, .undef, .undef, .undef, .undef, .undef, .undef, .undef, .undef, .undef, .undef, .undef, .undef, .undef, .undef, .undef, .undef, .undef, .undef, .undef, .undef, .undef, .undef, .undef, .undef, .undef, .undef, .undef], []⟩
noncomputable def ref02_four_5_0_x1 {R : Type} (K : Ex → St → Option R) (q0 : Int) (q1 : Int) : Option R := K (.ret) ⟨[.undef, .undef, .undef, .undef, .int .i64 q0, .int .i64 q1, .undef, .undef, .undef, .undef, .undef, .undef, .undef, .undef, .undef, .undef, .undef, .undef, .undef, .undef, .undef, .undef, .undef, .undef, .undef, .undef, .undef, .undef, .undef, .undef, .undef, .undef, .undef, .undef, .undef, .undef, .undef, .undef, .undef, .undef, .undef, .undef, .undef, .undef, .undef, .undef, .undef, .undef, .undef, .undef, .undef, .undef, .undef, .undef, .undef, .undef, .undef, .undef, .undef, .undef, .undef], []⟩
noncomputable def ref02_four_5_0_s {R : Type} (K : Ex → St → Option R) (rc : ref02_four_5_0_D → Option R) (d : ref02_four_5_0_D) : Option R := ref02_four_5_0_B (fun z0 z1 z2 z3 => rc (z0, z1, z2, z3)) d.1 d.2.1 d.2.2.1 d.2.2.2 (ref02_four_5_0_x0 K) (ref02_four_5_0_x1 K)
noncomputable def ref02_four_5_0_A {R : Type} (K : Ex → St → Option R) (n : Nat) (d : ref02_four_5_0_D) : Option R := ref02_four_5_0_L n d.1 d.2.1 d.2.2.1 d.2.2.2 (ref02_four_5_0_x0 K) (ref02_four_5_0_x1 K)
abbrev ref02_four_5_0_p : List Pat := [.leaf (.str), .leaf (.int .i64), .leaf (.undef), .leaf (.undef), .leaf (.undef), .leaf (.int .i64), .leaf (.int .i64), .leaf (.undef), .leaf (.undef), .leaf (.undef), .leaf (.undef), .leaf (.undef), .leaf (.undef), .leaf (.undef), .leaf (.undef), .leaf (.undef), .leaf (.undef), .leaf (.undef), .leaf (.undef), .leaf (.undef), .leaf (.undef), .leaf (.undef), .leaf (.undef), .leaf (.undef), .leaf (.undef), .leaf (.undef), .leaf (.undef), .leaf (.undef), .leaf (.undef), .leaf (.undef), .leaf (.undef), .leaf (.undef), .leaf (.undef), .leaf (.undef), .leaf (.undef), .leaf (.undef), .leaf (.undef), .leaf (.undef), .leaf (.undef), .leaf (.undef), .leaf (.undef), .leaf (.undef), .leaf (.undef), .leaf (.undef), .leaf (.undef), .leaf (.undef), .leaf (.undef), .leaf (.undef), .leaf (.undef), .leaf (.undef), .leaf (.undef), .leaf (.undef), .leaf (.undef), .leaf (.undef), .leaf (.undef), .leaf (.undef), .leaf (.undef), .leaf (.undef), .leaf (.undef), .leaf (.undef), .leaf (.undef)]
abbrev ref02_four_5_0_q : List HPat := []
noncomputable def ref02_four_5_0_f (x : Pat.dens ref02_four_5_0_p) (y : HPat.dens ref02_four_5_0_q) : Nat := (List.length x.1 + Int.natAbs x.2.1 + Int.natAbs x.2.2.2.2.2.1 + Int.natAbs x.2.2.2.2.2.2.1 + 64)
noncomputable def ref02_four_5_0_d (x : Pat.dens ref02_four_5_0_p) (y : HPat.dens ref02_four_5_0_q) : ref02_four_5_0_D := (x.1, x.2.1, x.2.2.2.2.2.1, x.2.2.2.2.2.2.1)
noncomputable def ref02_four_5_0_rr {R : Type} (L : ref02_four_5_0_ty R) : Pat.dens ref02_four_5_0_p → HPat.dens ref02_four_5_0_q → (Ex → St → Option R) → Option R := fun x y K => L (ref02_four_5_0_f x y) x.1 x.2.1 x.2.2.2.2.2.1 x.2.2.2.2.2.2.1 (ref02_four_5_0_x0 K) (ref02_four_5_0_x1 K)
noncomputable def ref02_four_T (R : Type) (ref02_four_5_0_L : ref02_four_5_0_ty R) : Nat → Option (Hint × LSpec R) := fun i => match i with
  | 5 => some (ref02_four_5_0_h, (loopBy ref02_four_5_0_p ref02_four_5_0_q (ref02_four_5_0_rr ref02_four_5_0_L) loopNo))
  | _ => none

theorem ref02_four_5_0_B_ok {R : Type} (ref02_four_5_0_L : ref02_four_5_0_ty R) (K : Ex → St → Option R) (rc : St → Option R) (d : ref02_four_5_0_D) : roundOf tt (ref02_four_E R) (ref02_four_T R ref02_four_5_0_L) 0 ((loopsOf (codeOf Tryd.f72)).getD 0 .skip) ref02_four_5_0_h (ref02_four_5_0_enc d) rc K = ref02_four_5_0_s K (fun d => rc (ref02_four_5_0_enc d)) d := by kernel_rfl
theorem ref02_four_5_0_A_succ {R : Type} (K : Ex → St → Option R) (n : Nat) (d : ref02_four_5_0_D) : ref02_four_5_0_A K (n + 1) d = ref02_four_5_0_s K (ref02_four_5_0_A K n) d := by kernel_rfl
theorem ref02_four_5_0_A_zero {R : Type} (K : Ex → St → Option R) (d : ref02_four_5_0_D) : ref02_four_5_0_A K 0 d = none := by kernel_rfl
theorem ref02_four_5_0_e_ok (x : Pat.dens ref02_four_5_0_p) (y : HPat.dens ref02_four_5_0_q) : (⟨Pat.encL ref02_four_5_0_p x, HPat.encL ref02_four_5_0_q y⟩ : St) = ref02_four_5_0_enc (ref02_four_5_0_d x y) := by kernel_rfl
theorem ref02_four_5_0_r_ok {R : Type} (x : Pat.dens ref02_four_5_0_p) (y : HPat.dens ref02_four_5_0_q) (K : Ex → St → Option R) : ref02_four_5_0_rr (ref02_four_5_0_L) x y K = ref02_four_5_0_A K (ref02_four_5_0_f x y) (ref02_four_5_0_d x y) := by kernel_rfl
theorem ref02_four_5_0_ok {R : Type} (other : LSpec R) (ho : LsOk tt (ref02_four_E R) (ref02_four_T R ref02_four_5_0_L) 0 ((loopsOf (codeOf Tryd.f72)).getD 0 .skip) ref02_four_5_0_h other) : LsOk tt (ref02_four_E R) (ref02_four_T R ref02_four_5_0_L) 0 ((loopsOf (codeOf Tryd.f72)).getD 0 .skip) ref02_four_5_0_h (loopBy ref02_four_5_0_p ref02_four_5_0_q (ref02_four_5_0_rr (ref02_four_5_0_L)) other) :=
  loopBy_tie (A := ref02_four_5_0_A) ho (loop_tie ref02_four_5_0_enc (ref02_four_5_0_s) (ref02_four_5_0_A) (ref02_four_5_0_A_zero) (ref02_four_5_0_B_ok ref02_four_5_0_L) (ref02_four_5_0_A_succ)) ref02_four_5_0_f ref02_four_5_0_d ref02_four_5_0_e_ok (ref02_four_5_0_r_ok)

noncomputable def ref02_four_X {R : Type} (ref02_four_5_0_L : ref02_four_5_0_ty R) (x1 : Str) (x2 : Int) (k0 : Int → Option R) : Option R :=
  bif (decide ((IntKind.i64.wrap (x2 + 4)) > (x1.length : Int))) then (k0 (-1)) else (ref02_four_5_0_L (List.length x1 + Int.natAbs x2 + Int.natAbs 0 + Int.natAbs x2 + 64) x1 x2 0 x2 (fun y15 => k0 y15) (fun y16 y17 => k0 y16))
noncomputable def ref02_four {R : Type} : ref02_four_ty R := fun x1 x2 k0 => ref02_four_X ref02_four_5_0_L x1 x2 k0
theorem ref02_four_ok {R : Type} (ref02_four_5_0_L : ref02_four_5_0_ty R) (x1 : Str) (x2 : Int) (k : V → Heap → Option R) : funK tt (ref02_four_E R) (ref02_four_T R ref02_four_5_0_L) false Tryd.f72 (codeOf Tryd.f72) [.str x1, .int .i64 x2] [] k =
    ref02_four_X ref02_four_5_0_L x1 x2 (fun q0 => k (.int .i64 q0) []) := by kernel_rfl
theorem ref02_four_loops (R : Type) : ∀ a ∈ loopsOf (codeOf Tryd.f72), LoopOk tt (ref02_four_E R) (ref02_four_T R ref02_four_5_0_L) 0 a := by
  refine loops_ok 1 (by kernel_rfl) fun i hi => ?_
  match i, hi with
  | 0, _ => exact loopOk_some (by kernel_rfl) (ref02_four_5_0_ok _ loopNo_ok)
  | n + 1, hi => omega
theorem ref02_four_S_ok (R : Type) (other : Yard.Spec R) (ho : Yard.Spec.Ok Tryd.prog 72 other) : Yard.Spec.Ok Tryd.prog 72 (specBy ref02_four_p ref02_four_q (ref02_four_rr ref02_four) other) :=
  specBy_ok ho (funK_sound TT mixed (ref02_four_EOk R) (keep := false) rfl rfl rfl rfl 0 (ref02_four_loops R)) fun (x : Pat.dens ref02_four_p) (y : HPat.dens ref02_four_q) k => ref02_four_ok ref02_four_5_0_L x.1 x.2.1 k

/-! ### humpyard/humpyardref02.laid -/
abbrev ref02_laid_ty (R : Type) : Type := Int → ((List Int) → Option R) → Option R
abbrev ref02_laid_p : List Pat := [.leaf (.int .i64)]
abbrev ref02_laid_q : List HPat := []
noncomputable def ref02_laid_rr {R : Type} (fn : ref02_laid_ty R) : Pat.dens ref02_laid_p → HPat.dens ref02_laid_q → (V → Heap → Option R) → Option R := fun x y k => fn x.1 (fun q0 => k (.sl (.int .u8) q0 .no) [])
noncomputable def ref02_laid_E (R : Type) : Env R := fun i => match i with
  | _ => none
theorem ref02_laid_EOk (R : Type) : EOk Tryd.prog (ref02_laid_E R) := by
  intro i b sp h
  unfold ref02_laid_E at h
  split at h
  · cases h

noncomputable def ref02_laid_T (R : Type) : Nat → Option (Hint × LSpec R) := fun i => match i with
  | _ => none

noncomputable def ref02_laid_X {R : Type} (x1 : Int) (k0 : (List Int) → Option R) : Option R :=
  bif (decide (x1 < (128 : Int))) then (k0 ([(IntKind.u8.wrap x1)] : List Int)) else (bif (decide (x1 < (2048 : Int))) then (k0 ([(IntKind.u8.wrap (IntKind.i64.wrap ((BitVec.ofInt IntKind.i64.bits 192 ||| BitVec.ofInt IntKind.i64.bits (Int.fdiv x1 (2 ^ (min 6 IntKind.i64.bits)))).toNat : Int))), (IntKind.u8.wrap (IntKind.i64.wrap ((BitVec.ofInt IntKind.i64.bits 128 ||| BitVec.ofInt IntKind.i64.bits (IntKind.i64.wrap ((BitVec.ofInt IntKind.i64.bits x1 &&& BitVec.ofInt IntKind.i64.bits 63).toNat : Int))).toNat : Int)))] : List Int)) else (bif (decide (x1 < (65536 : Int))) then (k0 ([(IntKind.u8.wrap (IntKind.i64.wrap ((BitVec.ofInt IntKind.i64.bits 224 ||| BitVec.ofInt IntKind.i64.bits (Int.fdiv x1 (2 ^ (min 12 IntKind.i64.bits)))).toNat : Int))), (IntKind.u8.wrap (IntKind.i64.wrap ((BitVec.ofInt IntKind.i64.bits 128 ||| BitVec.ofInt IntKind.i64.bits (IntKind.i64.wrap ((BitVec.ofInt IntKind.i64.bits (Int.fdiv x1 (2 ^ (min 6 IntKind.i64.bits))) &&& BitVec.ofInt IntKind.i64.bits 63).toNat : Int))).toNat : Int))), (IntKind.u8.wrap (IntKind.i64.wrap ((BitVec.ofInt IntKind.i64.bits 128 ||| BitVec.ofInt IntKind.i64.bits (IntKind.i64.wrap ((BitVec.ofInt IntKind.i64.bits x1 &&& BitVec.ofInt IntKind.i64.bits 63).toNat : Int))).toNat : Int)))] : List Int)) else (k0 ([(IntKind.u8.wrap (IntKind.i64.wrap ((BitVec.ofInt IntKind.i64.bits 240 ||| BitVec.ofInt IntKind.i64.bits (Int.fdiv x1 (2 ^ (min 18 IntKind.i64.bits)))).toNat : Int))), (IntKind.u8.wrap (IntKind.i64.wrap ((BitVec.ofInt IntKind.i64.bits 128 ||| BitVec.ofInt IntKind.i64.bits (IntKind.i64.wrap ((BitVec.ofInt IntKind.i64.bits (Int.fdiv x1 (2 ^ (min 12 IntKind.i64.bits))) &&& BitVec.ofInt IntKind.i64.bits 63).toNat : Int))).toNat : Int))), (IntKind.u8.wrap (IntKind.i64.wrap ((BitVec.ofInt IntKind.i64.bits 128 ||| BitVec.ofInt IntKind.i64.bits (IntKind.i64.wrap ((BitVec.ofInt IntKind.i64.bits (Int.fdiv x1 (2 ^ (min 6 IntKind.i64.bits))) &&& BitVec.ofInt IntKind.i64.bits 63).toNat : Int))).toNat : Int))), (IntKind.u8.wrap (IntKind.i64.wrap ((BitVec.ofInt IntKind.i64.bits 128 ||| BitVec.ofInt IntKind.i64.bits (IntKind.i64.wrap ((BitVec.ofInt IntKind.i64.bits x1 &&& BitVec.ofInt IntKind.i64.bits 63).toNat : Int))).toNat : Int)))] : List Int))))
noncomputable def ref02_laid {R : Type} : ref02_laid_ty R := fun x1 k0 => ref02_laid_X x1 k0
theorem ref02_laid_ok {R : Type} (x1 : Int) (k : V → Heap → Option R) : funK tt (ref02_laid_E R) (ref02_laid_T R) false Tryd.f73 (codeOf Tryd.f73) [.int .i64 x1] [] k =
    ref02_laid_X x1 (fun q0 => k (.sl (.int .u8) q0 .no) []) := by kernel_rfl
theorem ref02_laid_loops (R : Type) : ∀ a ∈ loopsOf (codeOf Tryd.f73), LoopOk tt (ref02_laid_E R) (ref02_laid_T R) 0 a := by
  refine loops_ok 0 (by kernel_rfl) fun i hi => ?_
  omega
theorem ref02_laid_S_ok (R : Type) (other : Yard.Spec R) (ho : Yard.Spec.Ok Tryd.prog 73 other) : Yard.Spec.Ok Tryd.prog 73 (specBy ref02_laid_p ref02_laid_q (ref02_laid_rr ref02_laid) other) :=
  specBy_ok ho (funK_sound TT mixed (ref02_laid_EOk R) (keep := false) rfl rfl rfl rfl 0 (ref02_laid_loops R)) fun (x : Pat.dens ref02_laid_p) (y : HPat.dens ref02_laid_q) k => ref02_laid_ok x.1 k

/-! ### humpyard/humpyardref02.escape -/
abbrev ref02_escape_ty (R : Type) : Type := Str → Int → ((List Int) → Int → Option R) → Option R
abbrev ref02_escape_p : List Pat := [.leaf (.str), .leaf (.int .i64)]
abbrev ref02_escape_q : List HPat := []
noncomputable def ref02_escape_rr {R : Type} (fn : ref02_escape_ty R) : Pat.dens ref02_escape_p → HPat.dens ref02_escape_q → (V → Heap → Option R) → Option R := fun x y k => fn x.1 x.2.1 (fun q0 q1 => k (.tuple [.sl (.int .u8) q0 .no, .int .i64 q1]) [])
noncomputable def ref02_escape_E (R : Type) (ref02_four : ref02_four_ty R) (ref02_laid : ref02_laid_ty R) : Env R := fun i => match i with
  | 72 => some (true, (specBy ref02_four_p ref02_four_q (ref02_four_rr ref02_four) specNo))
  | 73 => some (true, (specBy ref02_laid_p ref02_laid_q (ref02_laid_rr ref02_laid) specNo))
  | _ => none
theorem ref02_escape_EOk (R : Type) : EOk Tryd.prog (ref02_escape_E R ref02_four ref02_laid) := by
  intro i b sp h
  unfold ref02_escape_E at h
  split at h
  · cases h; exact ⟨(ref02_four_S_ok R _ (specNo_ok _)), fun h => nomatch h⟩
  · cases h; exact ⟨(ref02_laid_S_ok R _ (specNo_ok _)), fun h => nomatch h⟩
  · cases h

noncomputable def ref02_escape_T (R : Type) : Nat → Option (Hint × LSpec R) := fun i => match i with
  | _ => none

noncomputable def ref02_escape_X {R : Type} (ref02_four : ref02_four_ty R) (ref02_laid : ref02_laid_ty R) (x1 : Str) (x2 : Int) (k0 : (List Int) → Int → Option R) : Option R :=
  bif (decide (x2 ≥ (x1.length : Int))) then (k0 ([] : List Int) 0) else (chk (decide ((0 : Int) ≤ x2) && decide (x2 < x1.length)) (let j15 := fun (z3 : Bool) => bif z3 then (chk (decide ((0 : Int) ≤ x2) && decide (x2 < x1.length)) (k0 ([((x1.getD x2.toNat 0).toNat : Int)] : List Int) 1)) else (bif (((x1.getD x2.toNat 0).toNat : Int) == 98) then (k0 ([8] : List Int) 1) else (bif (((x1.getD x2.toNat 0).toNat : Int) == 102) then (k0 ([12] : List Int) 1) else (bif (((x1.getD x2.toNat 0).toNat : Int) == 110) then (k0 ([10] : List Int) 1) else (bif (((x1.getD x2.toNat 0).toNat : Int) == 114) then (k0 ([13] : List Int) 1) else (bif (((x1.getD x2.toNat 0).toNat : Int) == 116) then (k0 ([9] : List Int) 1) else (bif (((x1.getD x2.toNat 0).toNat : Int) == 117) then (ref02_four x1 (IntKind.i64.wrap (x2 + 1)) (fun y4 => let j14 := bif (decide (y4 < (55296 : Int))) then (ref02_laid y4 (fun y8 => k0 y8 5)) else (bif (decide (y4 > (57343 : Int))) then (ref02_laid y4 (fun y9 => k0 y9 5)) else (bif (decide ((IntKind.i64.wrap (x2 + 7)) > (x1.length : Int))) then (k0 ([] : List Int) 0) else (chk (decide ((0 : Int) ≤ (IntKind.i64.wrap (x2 + 5))) && decide ((IntKind.i64.wrap (x2 + 5)) < x1.length)) (bif (((x1.getD ((IntKind.i64.wrap (x2 + 5)).toNat) 0).toNat : Int) != 92) then (k0 ([] : List Int) 0) else (chk (decide ((0 : Int) ≤ (IntKind.i64.wrap (x2 + 6))) && decide ((IntKind.i64.wrap (x2 + 6)) < x1.length)) (bif (((x1.getD ((IntKind.i64.wrap (x2 + 6)).toNat) 0).toNat : Int) != 117) then (k0 ([] : List Int) 0) else (ref02_four x1 (IntKind.i64.wrap (x2 + 7)) (fun y11 => bif (decide (y11 < (56320 : Int))) then (k0 ([] : List Int) 0) else (bif (decide (y11 > (57343 : Int))) then (k0 ([] : List Int) 0) else (ref02_laid (IntKind.i64.wrap ((IntKind.i64.wrap ((IntKind.i64.wrap (65536 + (IntKind.i64.wrap ((IntKind.i64.wrap (y4 - 55296)) * 2 ^ (min 10 IntKind.i64.bits))))) + y11)) - 56320)) (fun y13 => k0 y13 11))))))))))); bif (decide (y4 < (0 : Int))) then (k0 ([] : List Int) 0) else (bif (decide (y4 ≥ (56320 : Int))) then (bif (decide (y4 ≤ (57343 : Int))) then (k0 ([] : List Int) 0) else (j14)) else (j14)))) else (k0 ([] : List Int) 0))))))); bif (((x1.getD x2.toNat 0).toNat : Int) == 34) then (j15 (((x1.getD x2.toNat 0).toNat : Int) == 34)) else (bif (((x1.getD x2.toNat 0).toNat : Int) == 92) then (j15 (((x1.getD x2.toNat 0).toNat : Int) == 92)) else (j15 (((x1.getD x2.toNat 0).toNat : Int) == 47)))))
noncomputable def ref02_escape {R : Type} : ref02_escape_ty R := fun x1 x2 k0 => ref02_escape_X ref02_four ref02_laid x1 x2 k0
theorem ref02_escape_ok {R : Type} (ref02_four : ref02_four_ty R) (ref02_laid : ref02_laid_ty R) (x1 : Str) (x2 : Int) (k : V → Heap → Option R) : funK tt (ref02_escape_E R ref02_four ref02_laid) (ref02_escape_T R) false Tryd.f50 (codeOf Tryd.f50) [.str x1, .int .i64 x2] [] k =
    ref02_escape_X ref02_four ref02_laid x1 x2 (fun q0 q1 => k (.tuple [.sl (.int .u8) q0 .no, .int .i64 q1]) []) := by kernel_rfl
theorem ref02_escape_loops (R : Type) : ∀ a ∈ loopsOf (codeOf Tryd.f50), LoopOk tt (ref02_escape_E R ref02_four ref02_laid) (ref02_escape_T R) 0 a := by
  refine loops_ok 0 (by kernel_rfl) fun i hi => ?_
  omega
theorem ref02_escape_S_ok (R : Type) (other : Yard.Spec R) (ho : Yard.Spec.Ok Tryd.prog 50 other) : Yard.Spec.Ok Tryd.prog 50 (specBy ref02_escape_p ref02_escape_q (ref02_escape_rr ref02_escape) other) :=
  specBy_ok ho (funK_sound TT mixed (ref02_escape_EOk R) (keep := false) rfl rfl rfl rfl 0 (ref02_escape_loops R)) fun (x : Pat.dens ref02_escape_p) (y : HPat.dens ref02_escape_q) k => ref02_escape_ok ref02_four ref02_laid x.1 x.2.1 k

/-! ### humpyard/humpyardref02.one -/
abbrev ref02_one_ty (R : Type) : Type := Str → Int → (Int → Option R) → Option R
abbrev ref02_one_p : List Pat := [.leaf (.str), .leaf (.int .i64)]
abbrev ref02_one_q : List HPat := []
noncomputable def ref02_one_rr {R : Type} (fn : ref02_one_ty R) : Pat.dens ref02_one_p → HPat.dens ref02_one_q → (V → Heap → Option R) → Option R := fun x y k => fn x.1 x.2.1 (fun q0 => k (.int .i64 q0) [])
abbrev ref02_one_23_0_ty (R : Type) : Type := Nat → Str → Int → Int → Int → Int → Int → (Int → Int → Int → Option R) → (Int → Int → Int → Int → Option R) → Option R
noncomputable def ref02_one_E (R : Type) : Env R := fun i => match i with
  | _ => none
theorem ref02_one_EOk (R : Type) : EOk Tryd.prog (ref02_one_E R) := by
  intro i b sp h
  unfold ref02_one_E at h
  split at h
  · cases h

noncomputable def ref02_one_23_0_B {R : Type} (rec' : Str → Int → Int → Int → Int → Int → Option R) (x12 : Str) (x13 : Int) (x14 : Int) (x15 : Int) (x16 : Int) (x17 : Int) (e0 : Int → Int → Int → Option R) (e1 : Int → Int → Int → Int → Option R) : Option R :=
  bif (decide (x17 < x14)) then (chk (decide ((0 : Int) ≤ (IntKind.i64.wrap (x13 + x17))) && decide ((IntKind.i64.wrap (x13 + x17)) < x12.length)) (bif ((IntKind.u8.wrap ((BitVec.ofInt IntKind.u8.bits ((x12.getD ((IntKind.i64.wrap (x13 + x17)).toNat) 0).toNat : Int) &&& BitVec.ofInt IntKind.u8.bits 192).toNat : Int)) != 128) then (e1 0 x14 x15 x16) else (chk (decide ((0 : Int) ≤ (IntKind.i64.wrap (x13 + x17))) && decide ((IntKind.i64.wrap (x13 + x17)) < x12.length)) (rec' x12 x13 x14 x15 (IntKind.i64.wrap ((BitVec.ofInt IntKind.i64.bits (IntKind.i64.wrap (x16 * 2 ^ (min 6 IntKind.i64.bits))) ||| BitVec.ofInt IntKind.i64.bits (IntKind.i64.wrap (IntKind.u8.wrap ((BitVec.ofInt IntKind.u8.bits ((x12.getD ((IntKind.i64.wrap (x13 + x17)).toNat) 0).toNat : Int) &&& BitVec.ofInt IntKind.u8.bits 63).toNat : Int)))).toNat : Int)) (IntKind.i64.wrap (x17 + 1)))))) else (e0 x14 x15 x16)
noncomputable def ref02_one_23_0_L {R : Type} : ref02_one_23_0_ty R
  | 0, _, _, _, _, _, _, _, _ => none
  | n + 1, x0', x1', x2', x3', x4', x5', e0, e1 => ref02_one_23_0_B (fun x0' x1' x2' x3' x4' x5' => ref02_one_23_0_L n x0' x1' x2' x3' x4' x5' e0 e1) x0' x1' x2' x3' x4' x5' e0 e1
noncomputable def ref02_one_23_0_h : Hint := { live := [0, 1, 6, 7, 8, 9], own := [], rows := [], cells := [], drop := [], out := [4, 6, 7, 8] }
abbrev ref02_one_23_0_D : Type := Str × Int × Int × Int × Int × Int
noncomputable def ref02_one_23_0_enc : ref02_one_23_0_D → St := fun d => ⟨[.str d.1, .int .i64 d.2.1, .undef, .undef, .undef, .undef, .int .i64 d.2.2.1, .int .i64 d.2.2.2.1, .int .i64 d.2.2.2.2.1, .int .i64 d.2.2.2.2.2, .undef, .undef, .undef, .undef, .undef, .undef, .undef, .undef, .undef, .undef, .undef, .undef, .undef, .undef, .undef, .undef, .undef, .undef, .undef, .undef, .undef, .undef, .undef, .undef, .undef, .undef, .undef, .undef, .undef, .undef, .undef, .undef, .undef, .undef, .undef, .undef, .undef, .undef, .undef, .undef, .undef, .undef, .undef, .undef, .undef, .undef, .undef, .undef, .undef, .undef, .undef, .undef, .undef, .undef, .undef, .undef, .undef, .undef, .undef, .undef, .undef, .undef, .undef, .undef, .undef, .undef, .undef, .undef, .undef, .undef, .undef, .undef, .undef, .undef, .undef, .undef, .undef, .undef, .undef, .undef], []⟩
noncomputable def ref02_one_23_0_x0 {R : Type} (K : Ex → St → Option R) (q0 : Int) (q1 : Int) (q2 : Int) : Option R := K (.exit 1) ⟨[.undef, .undef, .undef, .undef, .undef, .undef, .int .i64 q0, .int .i64 q1, .int .i64 q2, .undef, .undef, .undef, .undef, .undef, .undef, .undef, .undef, .undef, .undef, .undef, .undef, .undef, .undef, .undef, .undef, .undef, .undef, .undef, .undef, .undef, .undef, .undef, .undef, .undef, .undef, .undef, .undef, .undef, .undef, .undef, .undef, .undef, .undef, .undef, .undef, .undef, .undef, .undef, .undef, .undef, .undef, .undef, .undef, .undef, .undef, .undef, .undef, .undef, .undef, .undef, .undef, .undef, .undef, .undef, .undef, .undef, .undef, .undef, .undef, .undef, .undef, .undef, .undef, .undef, .undef, .undef, .undef, .undef, .undef, .undef, .undef, .undef, .undef, .undef, .undef, .undef, .undef, .undef, .undef, .undef], []⟩
noncomputable def ref02_one_23_0_x1 {R : Type} (K : Ex → St → Option R) (q0 : Int) (q1 : Int) (q2 : Int) (q3 : Int) : Option R := K (.ret) ⟨[.undef, .undef, .undef, .undef, .int .i64 q0, .undef, .int .i64 q1, .int .i64 q2, .int .i64 q3, .undef, .undef, .undef, .undef, .undef, .undef, .undef, .undef, .undef, .undef, .undef, .undef, .undef, .undef, .undef, .undef, .undef, .undef, .undef, .undef, .undef, .undef, .undef, .undef, .undef, .undef, .undef, .undef, .undef, .undef, .undef, .undef, .undef, .undef, .undef, .undef, .undef, .undef, .undef, .undef, .undef, .undef, .undef, .undef, .undef, .undef, .undef, .undef, .undef, .undef, .undef, .undef, .undef, .undef, .undef, .undef, .undef, .undef, .undef, .undef, .undef, .undef, .undef, .undef, .undef, .undef, .undef, .undef, .undef, .undef, .undef, .undef, .undef, .undef, .undef, .undef, .undef, .undef, .undef, .undef, .undef], []⟩
noncomputable def ref02_one_23_0_s {R : Type} (K : Ex → St → Option R) (rc : ref02_one_23_0_D → Option R) (d : ref02_one_23_0_D) : Option R := ref02_one_23_0_B (fun z0 z1 z2 z3 z4 z5 => rc (z0, z1, z2, z3, z4, z5)) d.1 d.2.1 d.2.2.1 d.2.2.2.1 d.2.2.2.2.1 d.2.2.2.2.2 (ref02_one_23_0_x0 K) (ref02_one_23_0_x1 K)
noncomputable def ref02_one_23_0_A {R : Type} (K : Ex → St → Option R) (n : Nat) (d : ref02_one_23_0_D) : Option R := ref02_one_23_0_L n d.1 d.2.1 d.2.2.1 d.2.2.2.1 d.2.2.2.2.1 d.2.2.2.2.2 (ref02_one_23_0_x0 K) (ref02_one_23_0_x1 K)
abbrev ref02_one_23_0_p : List Pat := [.leaf (.str), .leaf (.int .i64), .leaf (.undef), .leaf (.undef), .leaf (.undef), .leaf (.undef), .leaf (.int .i64), .leaf (.int .i64), .leaf (.int .i64), .leaf (.int .i64), .leaf (.undef), .leaf (.undef), .leaf (.undef), .leaf (.undef), .leaf (.undef), .leaf (.undef), .leaf (.undef), .leaf (.undef), .leaf (.undef), .leaf (.undef), .leaf (.undef), .leaf (.undef), .leaf (.undef), .leaf (.undef), .leaf (.undef), .leaf (.undef), .leaf (.undef), .leaf (.undef), .leaf (.undef), .leaf (.undef), .leaf (.undef), .leaf (.undef), .leaf (.undef), .leaf (.undef), .leaf (.undef), .leaf (.undef), .leaf (.undef), .leaf (.undef), .leaf (.undef), .leaf (.undef), .leaf (.undef), .leaf (.undef), .leaf (.undef), .leaf (.undef), .leaf (.undef), .leaf (.undef), .leaf (.undef), .leaf (.undef), .leaf (.undef), .leaf (.undef), .leaf (.undef), .leaf (.undef), .leaf (.undef), .leaf (.undef), .leaf (.undef), .leaf (.undef), .leaf (.undef), .leaf (.undef), .leaf (.undef), .leaf (.undef), .leaf (.undef), .leaf (.undef), .leaf (.undef), .leaf (.undef), .leaf (.undef), .leaf (.undef), .leaf (.undef), .leaf (.undef), .leaf (.undef), .leaf (.undef), .leaf (.undef), .leaf (.undef), .leaf (.undef), .leaf (.undef), .leaf (.undef), .leaf (.undef), .leaf (.undef), .leaf (.undef), .leaf (.undef), .leaf (.undef), .leaf (.undef), .leaf (.undef), .leaf (.undef), .leaf (.undef), .leaf (.undef), .leaf (.undef), .leaf (.undef), .leaf (.undef), .leaf (.undef), .leaf (.undef)]
abbrev ref02_one_23_0_q : List HPat := []
noncomputable def ref02_one_23_0_f (x : Pat.dens ref02_one_23_0_p) (y : HPat.dens ref02_one_23_0_q) : Nat := (List.length x.1 + Int.natAbs x.2.1 + Int.natAbs x.2.2.2.2.2.2.1 + Int.natAbs x.2.2.2.2.2.2.2.1 + Int.natAbs x.2.2.2.2.2.2.2.2.1 + Int.natAbs x.2.2.2.2.2.2.2.2.2.1 + 64)
noncomputable def ref02_one_23_0_d (x : Pat.dens ref02_one_23_0_p) (y : HPat.dens ref02_one_23_0_q) : ref02_one_23_0_D := (x.1, x.2.1, x.2.2.2.2.2.2.1, x.2.2.2.2.2.2.2.1, x.2.2.2.2.2.2.2.2.1, x.2.2.2.2.2.2.2.2.2.1)
noncomputable def ref02_one_23_0_rr {R : Type} (L : ref02_one_23_0_ty R) : Pat.dens ref02_one_23_0_p → HPat.dens ref02_one_23_0_q → (Ex → St → Option R) → Option R := fun x y K => L (ref02_one_23_0_f x y) x.1 x.2.1 x.2.2.2.2.2.2.1 x.2.2.2.2.2.2.2.1 x.2.2.2.2.2.2.2.2.1 x.2.2.2.2.2.2.2.2.2.1 (ref02_one_23_0_x0 K) (ref02_one_23_0_x1 K)
noncomputable def ref02_one_T (R : Type) (ref02_one_23_0_L : ref02_one_23_0_ty R) : Nat → Option (Hint × LSpec R) := fun i => match i with
  | 23 => some (ref02_one_23_0_h, (loopBy ref02_one_23_0_p ref02_one_23_0_q (ref02_one_23_0_rr ref02_one_23_0_L) loopNo))
  | _ => none

theorem ref02_one_23_0_B_ok {R : Type} (ref02_one_23_0_L : ref02_one_23_0_ty R) (K : Ex → St → Option R) (rc : St → Option R) (d : ref02_one_23_0_D) : roundOf tt (ref02_one_E R) (ref02_one_T R ref02_one_23_0_L) 0 ((loopsOf (codeOf Tryd.f51)).getD 0 .skip) ref02_one_23_0_h (ref02_one_23_0_enc d) rc K = ref02_one_23_0_s K (fun d => rc (ref02_one_23_0_enc d)) d := by kernel_rfl
theorem ref02_one_23_0_A_succ {R : Type} (K : Ex → St → Option R) (n : Nat) (d : ref02_one_23_0_D) : ref02_one_23_0_A K (n + 1) d = ref02_one_23_0_s K (ref02_one_23_0_A K n) d := by kernel_rfl
theorem ref02_one_23_0_A_zero {R : Type} (K : Ex → St → Option R) (d : ref02_one_23_0_D) : ref02_one_23_0_A K 0 d = none := by kernel_rfl
theorem ref02_one_23_0_e_ok (x : Pat.dens ref02_one_23_0_p) (y : HPat.dens ref02_one_23_0_q) : (⟨Pat.encL ref02_one_23_0_p x, HPat.encL ref02_one_23_0_q y⟩ : St) = ref02_one_23_0_enc (ref02_one_23_0_d x y) := by kernel_rfl
theorem ref02_one_23_0_r_ok {R : Type} (x : Pat.dens ref02_one_23_0_p) (y : HPat.dens ref02_one_23_0_q) (K : Ex → St → Option R) : ref02_one_23_0_rr (ref02_one_23_0_L) x y K = ref02_one_23_0_A K (ref02_one_23_0_f x y) (ref02_one_23_0_d x y) := by kernel_rfl
theorem ref02_one_23_0_ok {R : Type} (other : LSpec R) (ho : LsOk tt (ref02_one_E R) (ref02_one_T R ref02_one_23_0_L) 0 ((loopsOf (codeOf Tryd.f51)).getD 0 .skip) ref02_one_23_0_h other) : LsOk tt (ref02_one_E R) (ref02_one_T R ref02_one_23_0_L) 0 ((loopsOf (codeOf Tryd.f51)).getD 0 .skip) ref02_one_23_0_h (loopBy ref02_one_23_0_p ref02_one_23_0_q (ref02_one_23_0_rr (ref02_one_23_0_L)) other) :=
  loopBy_tie (A := ref02_one_23_0_A) ho (loop_tie ref02_one_23_0_enc (ref02_one_23_0_s) (ref02_one_23_0_A) (ref02_one_23_0_A_zero) (ref02_one_23_0_B_ok ref02_one_23_0_L) (ref02_one_23_0_A_succ)) ref02_one_23_0_f ref02_one_23_0_d ref02_one_23_0_e_ok (ref02_one_23_0_r_ok)

noncomputable def ref02_one_X {R : Type} (ref02_one_23_0_L : ref02_one_23_0_ty R) (x1 : Str) (x2 : Int) (k0 : Int → Option R) : Option R :=
  chk (decide ((0 : Int) ≤ x2) && decide (x2 < x1.length)) (let j26 := fun (z9 : Int) (z10 : Int) (z11 : Int) => bif (decide ((IntKind.i64.wrap (x2 + z9)) > (x1.length : Int))) then (k0 0) else (ref02_one_23_0_L (List.length x1 + Int.natAbs x2 + Int.natAbs z9 + Int.natAbs z10 + Int.natAbs z11 + Int.natAbs 1 + 64) x1 x2 z9 z10 z11 1 (fun y18 y19 y20 => bif (decide (y20 < y19)) then (k0 0) else (bif (decide (y20 > (1114111 : Int))) then (k0 0) else (bif (decide (y20 ≥ (55296 : Int))) then (bif (decide (y20 ≤ (57343 : Int))) then (k0 0) else (k0 y18)) else (k0 y18)))) (fun y21 y22 y23 y24 => k0 y21)); bif (decide (((x1.getD x2.toNat 0).toNat : Int) < (128 : Int))) then (k0 1) else (let j8 := fun (z3 : Bool) => bif z3 then (j26 2 128 (IntKind.i64.wrap (IntKind.u8.wrap ((BitVec.ofInt IntKind.u8.bits ((x1.getD x2.toNat 0).toNat : Int) &&& BitVec.ofInt IntKind.u8.bits 31).toNat : Int)))) else (bif (decide (((x1.getD x2.toNat 0).toNat : Int) ≥ (224 : Int))) then (bif (decide (((x1.getD x2.toNat 0).toNat : Int) ≤ (239 : Int))) then (j26 3 2048 (IntKind.i64.wrap (IntKind.u8.wrap ((BitVec.ofInt IntKind.u8.bits ((x1.getD x2.toNat 0).toNat : Int) &&& BitVec.ofInt IntKind.u8.bits 15).toNat : Int)))) else (bif (decide (((x1.getD x2.toNat 0).toNat : Int) ≥ (240 : Int))) then (bif (decide (((x1.getD x2.toNat 0).toNat : Int) ≤ (244 : Int))) then (j26 4 65536 (IntKind.i64.wrap (IntKind.u8.wrap ((BitVec.ofInt IntKind.u8.bits ((x1.getD x2.toNat 0).toNat : Int) &&& BitVec.ofInt IntKind.u8.bits 7).toNat : Int)))) else (k0 0)) else (k0 0))) else (bif (decide (((x1.getD x2.toNat 0).toNat : Int) ≥ (240 : Int))) then (bif (decide (((x1.getD x2.toNat 0).toNat : Int) ≤ (244 : Int))) then (j26 4 65536 (IntKind.i64.wrap (IntKind.u8.wrap ((BitVec.ofInt IntKind.u8.bits ((x1.getD x2.toNat 0).toNat : Int) &&& BitVec.ofInt IntKind.u8.bits 7).toNat : Int)))) else (k0 0)) else (k0 0))); bif (decide (((x1.getD x2.toNat 0).toNat : Int) ≥ (194 : Int))) then (j8 (decide (((x1.getD x2.toNat 0).toNat : Int) ≤ (223 : Int)))) else (j8 false)))
noncomputable def ref02_one {R : Type} : ref02_one_ty R := fun x1 x2 k0 => ref02_one_X ref02_one_23_0_L x1 x2 k0
theorem ref02_one_ok {R : Type} (ref02_one_23_0_L : ref02_one_23_0_ty R) (x1 : Str) (x2 : Int) (k : V → Heap → Option R) : funK tt (ref02_one_E R) (ref02_one_T R ref02_one_23_0_L) false Tryd.f51 (codeOf Tryd.f51) [.str x1, .int .i64 x2] [] k =
    ref02_one_X ref02_one_23_0_L x1 x2 (fun q0 => k (.int .i64 q0) []) := by kernel_rfl
theorem ref02_one_loops (R : Type) : ∀ a ∈ loopsOf (codeOf Tryd.f51), LoopOk tt (ref02_one_E R) (ref02_one_T R ref02_one_23_0_L) 0 a := by
  refine loops_ok 1 (by kernel_rfl) fun i hi => ?_
  match i, hi with
  | 0, _ => exact loopOk_some (by kernel_rfl) (ref02_one_23_0_ok _ loopNo_ok)
  | n + 1, hi => omega
theorem ref02_one_S_ok (R : Type) (other : Yard.Spec R) (ho : Yard.Spec.Ok Tryd.prog 51 other) : Yard.Spec.Ok Tryd.prog 51 (specBy ref02_one_p ref02_one_q (ref02_one_rr ref02_one) other) :=
  specBy_ok ho (funK_sound TT mixed (ref02_one_EOk R) (keep := false) rfl rfl rfl rfl 0 (ref02_one_loops R)) fun (x : Pat.dens ref02_one_p) (y : HPat.dens ref02_one_q) k => ref02_one_ok ref02_one_23_0_L x.1 x.2.1 k

end Go.Proofs.YtmlkkgfenfdndaaDoor

/-
  Functions of the program as pure Lean functions, and the ties; printed by wip/tools/emit.py.
-/
set_option maxRecDepth 100000
set_option linter.unusedVariables false
namespace Go.Proofs.YtmlkkgfenfdndaaDoor
open Go Go.Yard

/-! ### humpyard/humpyardref02.Unquote -/
abbrev ref02_Unquote_ty (R : Type) : Type := Str → (Str → Int → Bool → Option R) → Option R
abbrev ref02_Unquote_p : List Pat := [.leaf (.str)]
abbrev ref02_Unquote_q : List HPat := []
noncomputable def ref02_Unquote_rr {R : Type} (fn : ref02_Unquote_ty R) : Pat.dens ref02_Unquote_p → HPat.dens ref02_Unquote_q → (V → Heap → Option R) → Option R := fun x y k => fn x.1 (fun q0 q1 q2 => k (.tuple [.str q0, .int .i64 q1, .bool q2]) [])
abbrev ref02_Unquote_5_0_ty (R : Type) : Type := Nat → Str → (List Int) → Int → (Option R) → (Str → Int → Bool → Option R) → Option R
noncomputable def ref02_Unquote_E (R : Type) (ref02_escape : ref02_escape_ty R) (ref02_one : ref02_one_ty R) : Env R := fun i => match i with
  | 50 => some (true, (specBy ref02_escape_p ref02_escape_q (ref02_escape_rr ref02_escape) specNo))
  | 51 => some (true, (specBy ref02_one_p ref02_one_q (ref02_one_rr ref02_one) specNo))
  | _ => none
theorem ref02_Unquote_EOk (R : Type) : EOk Tryd.prog (ref02_Unquote_E R ref02_escape ref02_one) := by
  intro i b sp h
  unfold ref02_Unquote_E at h
  split at h
  · cases h; exact ⟨(ref02_escape_S_ok R _ (specNo_ok _)), fun h => nomatch h⟩
  · cases h; exact ⟨(ref02_one_S_ok R _ (specNo_ok _)), fun h => nomatch h⟩
  · cases h

noncomputable def ref02_Unquote_5_0_B {R : Type} (ref02_escape : ref02_escape_ty R) (ref02_one : ref02_one_ty R) (rec' : Str → (List Int) → Int → Option R) (x3 : Str) (x4 : List Int) (x5 : Int) (e0 : Option R) (e1 : Str → Int → Bool → Option R) : Option R :=
  bif (decide (x5 < (x3.length : Int))) then (chk (decide ((0 : Int) ≤ x5) && decide (x5 < x3.length)) (bif (((x3.getD x5.toNat 0).toNat : Int) == 34) then (e1 (List.map (fun n : Int => UInt8.ofNat n.toNat) x4 : Str) (IntKind.i64.wrap (x5 + 1)) true) else (chk (decide ((0 : Int) ≤ x5) && decide (x5 < x3.length)) (bif (decide (((x3.getD x5.toNat 0).toNat : Int) < (32 : Int))) then (e1 ([] : Str) 0 false) else (chk (decide ((0 : Int) ≤ x5) && decide (x5 < x3.length)) (bif (((x3.getD x5.toNat 0).toNat : Int) == 92) then (ref02_escape x3 (IntKind.i64.wrap (x5 + 1)) (fun y6 y7 => bif (y7 == 0) then (e1 ([] : Str) 0 false) else (chk (decide ((x4.length + y6.length) * 1 ≤ 140737488355328)) (rec' x3 ((x4 : List Int) ++ (y6 : List Int)) (IntKind.i64.wrap ((IntKind.i64.wrap (x5 + 1)) + y7)))))) else (ref02_one x3 x5 (fun y8 => bif (y8 == 0) then (e1 ([] : Str) 0 false) else (chk (decide ((0 : Int) ≤ (IntKind.i64.wrap (x5 + y8))) && decide ((IntKind.i64.wrap (x5 + y8)) ≤ x3.length)) (chk (decide ((0 : Int) ≤ x5) && decide (x5 ≤ (IntKind.i64.wrap (x5 + y8)))) (chk (decide ((x4.length + (bytesN ((x3.drop x5.toNat).take ((IntKind.i64.wrap (x5 + y8)).toNat - x5.toNat))).length) * 1 ≤ 140737488355328)) (rec' x3 ((x4 : List Int) ++ ((bytesN ((x3.drop x5.toNat).take ((IntKind.i64.wrap (x5 + y8)).toNat - x5.toNat))) : List Int)) (IntKind.i64.wrap (x5 + y8)))))))))))))) else (e0)
noncomputable def ref02_Unquote_5_0_L {R : Type} : ref02_Unquote_5_0_ty R
  | 0, _, _, _, _, _ => none
  | n + 1, x0', x1', x2', e0, e1 => ref02_Unquote_5_0_B ref02_escape ref02_one (fun x0' x1' x2' => ref02_Unquote_5_0_L n x0' x1' x2' e0 e1) x0' x1' x2' e0 e1
noncomputable def ref02_Unquote_5_0_h : Hint := { live := [0, 5, 6], own := [(5, (.int .u8))], rows := [], cells := [], drop := [], out := [2, 3, 4] }
abbrev ref02_Unquote_5_0_D : Type := Str × (List Int) × Int
noncomputable def ref02_Unquote_5_0_enc : ref02_Unquote_5_0_D → St := fun d => ⟨[.str d.1, .undef, .undef, .undef, .undef, .sl (.int .u8) d.2.1 (.own 0), .int .i64 d.2.2, .undef, .undef, .undef, .undef, .undef, .undef, .undef, .undef, .undef, .undef, .undef, .undef, .undef, .undef, .undef, .undef, .undef, .undef, .undef, .undef, .undef, .undef, .undef, .undef, .undef, .undef, .undef, .undef, .undef, .undef, .undef, .undef, .undef, .undef, .undef, .undef, .undef, .undef, .undef, .undef, .undef, .undef, .undef, .undef, .undef, .undef, .undef, .undef, .undef, .undef, .undef, .undef, .undef, .undef, .undef, .undef, .undef, .undef, .undef, .undef, .undef, .undef, .undef, .undef, .undef, .undef], [.tok]⟩
noncomputable def ref02_Unquote_5_0_x0 {R : Type} (K : Ex → St → Option R) : Option R := K (.exit 0) ⟨[.undef, .undef, .undef, .undef, .undef, .undef, .undef, .undef, .undef, .undef, .undef, .undef, .undef, .undef, .undef, .undef, .undef, .undef, .undef, .undef, .undef, .undef, .undef, .undef, .undef, .undef, .undef, .undef, .undef, .undef, .undef, .undef, .undef, .undef, .undef, .undef, .undef, .undef, .undef, .undef, .undef, .undef, .undef, .undef, .undef, .undef, .undef, .undef, .undef, .undef, .undef, .undef, .undef, .undef, .undef, .undef, .undef, .undef, .undef, .undef, .undef, .undef, .undef, .undef, .undef, .undef, .undef, .undef, .undef, .undef, .undef, .undef, .undef], []⟩
noncomputable def ref02_Unquote_5_0_x1 {R : Type} (K : Ex → St → Option R) (q0 : Str) (q1 : Int) (q2 : Bool) : Option R := K (.ret) ⟨[.undef, .undef, .str q0, .int .i64 q1, .bool q2, .undef, .undef, .undef, .undef, .undef, .undef, .undef, .undef, .undef, .undef, .undef, .undef, .undef, .undef, .undef, .undef, .undef, .undef, .undef, .undef, .undef, .undef, .undef, .undef, .undef, .undef, .undef, .undef, .undef, .undef, .undef, .undef, .undef, .undef, .undef, .undef, .undef, .undef, .undef, .undef, .undef, .undef, .undef, .undef, .undef, .undef, .undef, .undef, .undef, .undef, .undef, .undef, .undef, .undef, .undef, .undef, .undef, .undef, .undef, .undef, .undef, .undef, .undef, .undef, .undef, .undef, .undef, .undef], []⟩
noncomputable def ref02_Unquote_5_0_s {R : Type} (ref02_escape : ref02_escape_ty R) (ref02_one : ref02_one_ty R) (K : Ex → St → Option R) (rc : ref02_Unquote_5_0_D → Option R) (d : ref02_Unquote_5_0_D) : Option R := ref02_Unquote_5_0_B ref02_escape ref02_one (fun z0 z1 z2 => rc (z0, z1, z2)) d.1 d.2.1 d.2.2 (ref02_Unquote_5_0_x0 K) (ref02_Unquote_5_0_x1 K)
noncomputable def ref02_Unquote_5_0_A {R : Type} (K : Ex → St → Option R) (n : Nat) (d : ref02_Unquote_5_0_D) : Option R := ref02_Unquote_5_0_L n d.1 d.2.1 d.2.2 (ref02_Unquote_5_0_x0 K) (ref02_Unquote_5_0_x1 K)
abbrev ref02_Unquote_5_0_p : List Pat := [.leaf (.str), .leaf (.undef), .leaf (.undef), .leaf (.undef), .leaf (.undef), .leaf (.slo (.int .u8) 0), .leaf (.int .i64), .leaf (.undef), .leaf (.undef), .leaf (.undef), .leaf (.undef), .leaf (.undef), .leaf (.undef), .leaf (.undef), .leaf (.undef), .leaf (.undef), .leaf (.undef), .leaf (.undef), .leaf (.undef), .leaf (.undef), .leaf (.undef), .leaf (.undef), .leaf (.undef), .leaf (.undef), .leaf (.undef), .leaf (.undef), .leaf (.undef), .leaf (.undef), .leaf (.undef), .leaf (.undef), .leaf (.undef), .leaf (.undef), .leaf (.undef), .leaf (.undef), .leaf (.undef), .leaf (.undef), .leaf (.undef), .leaf (.undef), .leaf (.undef), .leaf (.undef), .leaf (.undef), .leaf (.undef), .leaf (.undef), .leaf (.undef), .leaf (.undef), .leaf (.undef), .leaf (.undef), .leaf (.undef), .leaf (.undef), .leaf (.undef), .leaf (.undef), .leaf (.undef), .leaf (.undef), .leaf (.undef), .leaf (.undef), .leaf (.undef), .leaf (.undef), .leaf (.undef), .leaf (.undef), .leaf (.undef), .leaf (.undef), .leaf (.undef), .leaf (.undef), .leaf (.undef), .leaf (.undef), .leaf (.undef), .leaf (.undef), .leaf (.undef), .leaf (.undef), .leaf (.undef), .leaf (.undef), .leaf (.undef), .leaf (.undef)]
abbrev ref02_Unquote_5_0_q : List HPat := [.tok]
noncomputable def ref02_Unquote_5_0_f (x : Pat.dens ref02_Unquote_5_0_p) (y : HPat.dens ref02_Unquote_5_0_q) : Nat := (List.length x.1 + List.length x.2.2.2.2.2.1 + Int.natAbs x.2.2.2.2.2.2.1 + 64)
noncomputable def ref02_Unquote_5_0_d (x : Pat.dens ref02_Unquote_5_0_p) (y : HPat.dens ref02_Unquote_5_0_q) : ref02_Unquote_5_0_D := (x.1, x.2.2.2.2.2.1, x.2.2.2.2.2.2.1)
noncomputable def ref02_Unquote_5_0_rr {R : Type} (L : ref02_Unquote_5_0_ty R) : Pat.dens ref02_Unquote_5_0_p → HPat.dens ref02_Unquote_5_0_q → (Ex → St → Option R) → Option R := fun x y K => L (ref02_Unquote_5_0_f x y) x.1 x.2.2.2.2.2.1 x.2.2.2.2.2.2.1 (ref02_Unquote_5_0_x0 K) (ref02_Unquote_5_0_x1 K)
noncomputable def ref02_Unquote_T (R : Type) (ref02_Unquote_5_0_L : ref02_Unquote_5_0_ty R) : Nat → Option (Hint × LSpec R) := fun i => match i with
  | 5 => some (ref02_Unquote_5_0_h, (loopBy ref02_Unquote_5_0_p ref02_Unquote_5_0_q (ref02_Unquote_5_0_rr ref02_Unquote_5_0_L) loopNo))
  | _ => none

theorem ref02_Unquote_5_0_B_ok {R : Type} (ref02_escape : ref02_escape_ty R) (ref02_one : ref02_one_ty R) (ref02_Unquote_5_0_L : ref02_Unquote_5_0_ty R) (K : Ex → St → Option R) (rc : St → Option R) (d : ref02_Unquote_5_0_D) : roundOf tt (ref02_Unquote_E R ref02_escape ref02_one) (ref02_Unquote_T R ref02_Unquote_5_0_L) 0 ((loopsOf (codeOf Tryd.f25)).getD 0 .skip) ref02_Unquote_5_0_h (ref02_Unquote_5_0_enc d) rc K = ref02_Unquote_5_0_s ref02_escape ref02_one K (fun d => rc (ref02_Unquote_5_0_enc d)) d := by kernel_rfl
theorem ref02_Unquote_5_0_A_succ {R : Type} (K : Ex → St → Option R) (n : Nat) (d : ref02_Unquote_5_0_D) : ref02_Unquote_5_0_A K (n + 1) d = ref02_Unquote_5_0_s ref02_escape ref02_one K (ref02_Unquote_5_0_A K n) d := by kernel_rfl
theorem ref02_Unquote_5_0_A_zero {R : Type} (K : Ex → St → Option R) (d : ref02_Unquote_5_0_D) : ref02_Unquote_5_0_A K 0 d = none := by kernel_rfl
theorem ref02_Unquote_5_0_e_ok (x : Pat.dens ref02_Unquote_5_0_p) (y : HPat.dens ref02_Unquote_5_0_q) : (⟨Pat.encL ref02_Unquote_5_0_p x, HPat.encL ref02_Unquote_5_0_q y⟩ : St) = ref02_Unquote_5_0_enc (ref02_Unquote_5_0_d x y) := by kernel_rfl
theorem ref02_Unquote_5_0_r_ok {R : Type} (x : Pat.dens ref02_Unquote_5_0_p) (y : HPat.dens ref02_Unquote_5_0_q) (K : Ex → St → Option R) : ref02_Unquote_5_0_rr (ref02_Unquote_5_0_L) x y K = ref02_Unquote_5_0_A K (ref02_Unquote_5_0_f x y) (ref02_Unquote_5_0_d x y) := by kernel_rfl
theorem ref02_Unquote_5_0_ok {R : Type} (other : LSpec R) (ho : LsOk tt (ref02_Unquote_E R ref02_escape ref02_one) (ref02_Unquote_T R ref02_Unquote_5_0_L) 0 ((loopsOf (codeOf Tryd.f25)).getD 0 .skip) ref02_Unquote_5_0_h other) : LsOk tt (ref02_Unquote_E R ref02_escape ref02_one) (ref02_Unquote_T R ref02_Unquote_5_0_L) 0 ((loopsOf (codeOf Tryd.f25)).getD 0 .skip) ref02_Unquote_5_0_h (loopBy ref02_Unquote_5_0_p ref02_Unquote_5_0_q (ref02_Unquote_5_0_rr (ref02_Unquote_5_0_L)) other) :=
  loopBy_tie (A := ref02_Unquote_5_0_A) ho (loop_tie ref02_Unquote_5_0_enc (ref02_Unquote_5_0_s ref02_escape ref02_one) (ref02_Unquote_5_0_A) (ref02_Unquote_5_0_A_zero) (ref02_Unquote_5_0_B_ok ref02_escape ref02_one ref02_Unquote_5_0_L) (ref02_Unquote_5_0_A_succ)) ref02_Unquote_5_0_f ref02_Unquote_5_0_d ref02_Unquote_5_0_e_ok (ref02_Unquote_5_0_r_ok)

noncomputable def ref02_Unquote_X {R : Type} (ref02_Unquote_5_0_L : ref02_Unquote_5_0_ty R) (x1 : Str) (k0 : Str → Int → Bool → Option R) : Option R :=
  bif (decide ((x1.length : Int) < (2 : Int))) then (k0 ([] : Str) 0 false) else (chk (decide ((0 : Int) < x1.length)) (bif (((x1.getD 0 0).toNat : Int) != 34) then (k0 ([] : Str) 0 false) else (ref02_Unquote_5_0_L (List.length x1 + List.length ([] : List Int) + Int.natAbs 1 + 64) x1 ([] : List Int) 1 (k0 ([] : Str) 0 false) (fun y9 y10 y11 => k0 y9 y10 y11))))
noncomputable def ref02_Unquote {R : Type} : ref02_Unquote_ty R := fun x1 k0 => ref02_Unquote_X ref02_Unquote_5_0_L x1 k0
theorem ref02_Unquote_ok {R : Type} (ref02_escape : ref02_escape_ty R) (ref02_one : ref02_one_ty R) (ref02_Unquote_5_0_L : ref02_Unquote_5_0_ty R) (x1 : Str) (k : V → Heap → Option R) : funK tt (ref02_Unquote_E R ref02_escape ref02_one) (ref02_Unquote_T R ref02_Unquote_5_0_L) false Tryd.f25 (codeOf Tryd.f25) [.str x1] [] k =
    ref02_Unquote_X ref02_Unquote_5_0_L x1 (fun q0 q1 q2 => k (.tuple [.str q0, .int .i64 q1, .bool q2]) []) := by kernel_rfl
theorem ref02_Unquote_loops (R : Type) : ∀ a ∈ loopsOf (codeOf Tryd.f25), LoopOk tt (ref02_Unquote_E R ref02_escape ref02_one) (ref02_Unquote_T R ref02_Unquote_5_0_L) 0 a := by
  refine loops_ok 1 (by kernel_rfl) fun i hi => ?_
  match i, hi with
  | 0, _ => exact loopOk_some (by kernel_rfl) (ref02_Unquote_5_0_ok _ loopNo_ok)
  | n + 1, hi => omega
theorem ref02_Unquote_S_ok (R : Type) (other : Yard.Spec R) (ho : Yard.Spec.Ok Tryd.prog 25 other) : Yard.Spec.Ok Tryd.prog 25 (specBy ref02_Unquote_p ref02_Unquote_q (ref02_Unquote_rr ref02_Unquote) other) :=
  specBy_ok ho (funK_sound TT mixed (ref02_Unquote_EOk R) (keep := false) rfl rfl rfl rfl 0 (ref02_Unquote_loops R)) fun (x : Pat.dens ref02_Unquote_p) (y : HPat.dens ref02_Unquote_q) k => ref02_Unquote_ok ref02_escape ref02_one ref02_Unquote_5_0_L x.1 k

/-! ### humpyard/humpyardref03.word -/
abbrev ref03_word_ty (R : Type) : Type := Str → Int → Bool → (Str → Option R) → Option R
abbrev ref03_word_p : List Pat := [.leaf (.str), .leaf (.int .i64), .leaf (.bool)]
abbrev ref03_word_q : List HPat := []
noncomputable def ref03_word_rr {R : Type} (fn : ref03_word_ty R) : Pat.dens ref03_word_p → HPat.dens ref03_word_q → (V → Heap → Option R) → Option R := fun x y k => fn x.1 x.2.1 x.2.2.1 (fun q0 => k (.str q0) [])
abbrev ref03_word_2_0_ty (R : Type) : Type := Nat → Str → Int → Bool → Int → (Str → Int → Int → Option R) → Option R
noncomputable def ref03_word_E (R : Type) : Env R := fun i => match i with
  | _ => none
theorem ref03_word_EOk (R : Type) : EOk Tryd.prog (ref03_word_E R) := by
  intro i b sp h
  unfold ref03_word_E at h
  split at h
  · cases h

noncomputable def ref03_word_2_0_B {R : Type} (rec' : Str → Int → Bool → Int → Option R) (x4 : Str) (x5 : Int) (x6 : Bool) (x7 : Int) (e0 : Str → Int → Int → Option R) : Option R :=
  bif (decide ((IntKind.i64.wrap (x5 + x7)) < (x4.length : Int))) then (chk (decide ((0 : Int) ≤ (IntKind.i64.wrap (x5 + x7))) && decide ((IntKind.i64.wrap (x5 + x7)) < x4.length)) (bif x6 then (bif (decide (((x4.getD ((IntKind.i64.wrap (x5 + x7)).toNat) 0).toNat : Int) ≥ (48 : Int))) then (bif (decide (((x4.getD ((IntKind.i64.wrap (x5 + x7)).toNat) 0).toNat : Int) ≤ (57 : Int))) then (bif (!x6) then (bif (decide (((x4.getD ((IntKind.i64.wrap (x5 + x7)).toNat) 0).toNat : Int) < (97 : Int))) then (e0 x4 x5 x7) else (bif (decide (((x4.getD ((IntKind.i64.wrap (x5 + x7)).toNat) 0).toNat : Int) > (122 : Int))) then (e0 x4 x5 x7) else (rec' x4 x5 x6 (IntKind.i64.wrap (x7 + 1))))) else (rec' x4 x5 x6 (IntKind.i64.wrap (x7 + 1)))) else (bif (((x4.getD ((IntKind.i64.wrap (x5 + x7)).toNat) 0).toNat : Int) == 43) then (bif (!x6) then (bif (decide (((x4.getD ((IntKind.i64.wrap (x5 + x7)).toNat) 0).toNat : Int) < (97 : Int))) then (e0 x4 x5 x7) else (bif (decide (((x4.getD ((IntKind.i64.wrap (x5 + x7)).toNat) 0).toNat : Int) > (122 : Int))) then (e0 x4 x5 x7) else (rec' x4 x5 x6 (IntKind.i64.wrap (x7 + 1))))) else (rec' x4 x5 x6 (IntKind.i64.wrap (x7 + 1)))) else (bif (((x4.getD ((IntKind.i64.wrap (x5 + x7)).toNat) 0).toNat : Int) == 45) then (bif (!x6) then (bif (decide (((x4.getD ((IntKind.i64.wrap (x5 + x7)).toNat) 0).toNat : Int) < (97 : Int))) then (e0 x4 x5 x7) else (bif (decide (((x4.getD ((IntKind.i64.wrap (x5 + x7)).toNat) 0).toNat : Int) > (122 : Int))) then (e0 x4 x5 x7) else (rec' x4 x5 x6 (IntKind.i64.wrap (x7 + 1))))) else (rec' x4 x5 x6 (IntKind.i64.wrap (x7 + 1)))) else (bif (((x4.getD ((IntKind.i64.wrap (x5 + x7)).toNat) 0).toNat : Int) == 46) then (bif (!x6) then (bif (decide (((x4.getD ((IntKind.i64.wrap (x5 + x7)).toNat) 0).toNat : Int) < (97 : Int))) then (e0 x4 x5 x7) else (bif (decide (((x4.getD ((IntKind.i64.wrap (x5 + x7)).toNat) 0).toNat : Int) > (122 : Int))) then (e0 x4 x5 x7) else (rec' x4 x5 x6 (IntKind.i64.wrap (x7 + 1))))) else (rec' x4 x5 x6 (IntKind.i64.wrap (x7 + 1)))) else (bif (((x4.getD ((IntKind.i64.wrap (x5 + x7)).toNat) 0).toNat : Int) == 101) then (bif (!x6) then (bif (decide (((x4.getD ((IntKind.i64.wrap (x5 + x7)).toNat) 0).toNat : Int) < (97 : Int))) then (e0 x4 x5 x7) else (bif (decide (((x4.getD ((IntKind.i64.wrap (x5 + x7)).toNat) 0).toNat : Int) > (122 : Int))) then (e0 x4 x5 x7) else (rec' x4 x5 x6 (IntKind.i64.wrap (x7 + 1))))) else (rec' x4 x5 x6 (IntKind.i64.wrap (x7 + 1)))) else (bif (!(((x4.getD ((IntKind.i64.wrap (x5 + x7)).toNat) 0).toNat : Int) == 69)) then (e0 x4 x5 x7) else (bif (!x6) then (bif (decide (((x4.getD ((IntKind.i64.wrap (x5 + x7)).toNat) 0).toNat : Int) < (97 : Int))) then (e0 x4 x5 x7) else (bif (decide (((x4.getD ((IntKind.i64.wrap (x5 + x7)).toNat) 0).toNat : Int) > (122 : Int))) then (e0 x4 x5 x7) else (rec' x4 x5 x6 (IntKind.i64.wrap (x7 + 1))))) else (rec' x4 x5 x6 (IntKind.i64.wrap (x7 + 1)))))))))) else (bif (((x4.getD ((IntKind.i64.wrap (x5 + x7)).toNat) 0).toNat : Int) == 43) then (bif (!x6) then (bif (decide (((x4.getD ((IntKind.i64.wrap (x5 + x7)).toNat) 0).toNat : Int) < (97 : Int))) then (e0 x4 x5 x7) else (bif (decide (((x4.getD ((IntKind.i64.wrap (x5 + x7)).toNat) 0).toNat : Int) > (122 : Int))) then (e0 x4 x5 x7) else (rec' x4 x5 x6 (IntKind.i64.wrap (x7 + 1))))) else (rec' x4 x5 x6 (IntKind.i64.wrap (x7 + 1)))) else (bif (((x4.getD ((IntKind.i64.wrap (x5 + x7)).toNat) 0).toNat : Int) == 45) then (bif (!x6) then (bif (decide (((x4.getD ((IntKind.i64.wrap (x5 + x7)).toNat) 0).toNat : Int) < (97 : Int))) then (e0 x4 x5 x7) else (bif (decide (((x4.getD ((IntKind.i64.wrap (x5 + x7)).toNat) 0).toNat : Int) > (122 : Int))) then (e0 x4 x5 x7) else (rec' x4 x5 x6 (IntKind.i64.wrap (x7 + 1))))) else (rec' x4 x5 x6 (IntKind.i64.wrap (x7 + 1)))) else (bif (((x4.getD ((IntKind.i64.wrap (x5 + x7)).toNat) 0).toNat : Int) == 46) then (bif (!x6) then (bif (decide (((x4.getD ((IntKind.i64.wrap (x5 + x7)).toNat) 0).toNat : Int) < (97 : Int))) then (e0 x4 x5 x7) else (bif (decide (((x4.getD ((IntKind.i64.wrap (x5 + x7)).toNat) 0).toNat : Int) > (122 : Int))) then (e0 x4 x5 x7) else (rec' x4 x5 x6 (IntKind.i64.wrap (x7 + 1))))) else (rec' x4 x5 x6 (IntKind.i64.wrap (x7 + 1)))) else (bif (((x4.getD ((IntKind.i64.wrap (x5 + x7)).toNat) 0).toNat : Int) == 101) then (bif (!x6) then (bif (decide (((x4.getD ((IntKind.i64.wrap (x5 + x7)).toNat) 0).toNat : Int) < (97 : Int))) then (e0 x4 x5 x7) else (bif (decide (((x4.getD ((IntKind.i64.wrap (x5 + x7)).toNat) 0).toNat : Int) > (122 : Int))) then (e0 x4 x5 x7) else (rec' x4 x5 x6 (IntKind.i64.wrap (x7 + 1))))) else (rec' x4 x5 x6 (IntKind.i64.wrap (x7 + 1)))) else (bif (!(((x4.getD ((IntKind.i64.wrap (x5 + x7)).toNat) 0).toNat : Int) == 69)) then (e0 x4 x5 x7) else (bif (!x6) then (bif (decide (((x4.getD ((IntKind.i64.wrap (x5 + x7)).toNat) 0).toNat : Int) < (97 : Int))) then (e0 x4 x5 x7) else (bif (decide (((x4.getD ((IntKind.i64.wrap (x5 + x7)).toNat) 0).toNat : Int) > (122 : Int))) then (e0 x4 x5 x7) else (rec' x4 x5 x6 (IntKind.i64.wrap (x7 + 1))))) else (rec' x4 x5 x6 (IntKind.i64.wrap (x7 + 1)))))))))) else (bif (!x6) then (bif (decide (((x4.getD ((IntKind.i64.wrap (x5 + x7)).toNat) 0).toNat : Int) < (97 : Int))) then (e0 x4 x5 x7) else (bif (decide (((x4.getD ((IntKind.i64.wrap (x5 + x7)).toNat) 0).toNat : Int) > (122 : Int))) then (e0 x4 x5 x7) else (rec' x4 x5 x6 (IntKind.i64.wrap (x7 + 1))))) else (rec' x4 x5 x6 (IntKind.i64.wrap (x7 + 1)))))) else (e0 x4 x5 x7)
noncomputable def ref03_word_2_0_L {R : Type} : ref03_word_2_0_ty R
  | 0, _, _, _, _, _ => none
  | n + 1, x0', x1', x2', x3', e0 => ref03_word_2_0_B (fun x0' x1' x2' x3' => ref03_word_2_0_L n x0' x1' x2' x3' e0) x0' x1' x2' x3' e0
noncomputable def ref03_word_2_0_h : Hint := { live := [0, 1, 2, 7], own := [], rows := [], cells := [], drop := [], out := [0, 1, 6, 7] }
abbrev ref03_word_2_0_D : Type := Str × Int × Bool × Int
noncomputable def ref03_word_2_0_enc : ref03_word_2_0_D → St := fun d => ⟨[.str d.1, .int .i64 d.2.1, .bool d.2.2.1, .undef, .undef, .undef, .undef, .int .i64 d.2.2.2, .undef, .undef, .undef, .undef, .undef, .undef, .undef, .undef, .undef, .undef, .undef, .undef, .undef, .undef, .undef, .undef, .undef, .undef, .undef, .undef, .undef, .undef, .undef, .undef, .undef, .undef, .undef, .undef, .undef, .undef, .undef, .undef, .undef, .undef, .undef, .undef, .undef, .undef, .undef, .undef, .undef, .undef, .undef, .undef, .undef, .undef, .undef, .undef, .undef, .undef, .undef, .undef, .undef, .undef, .undef, .undef, .undef, .undef, .undef, .undef, .undef, .undef], []⟩
noncomputable def ref03_word_2_0_x0 {R : Type} (K : Ex → St → Option R) (q0 : Str) (q1 : Int) (q2 : Int) : Option R := K (.exit 0) ⟨[.str q0, .int .i64 q1, .undef, .undef, .undef, .undef, .undef, .int .i64 q2, .undef, .undef, .undef, .undef, .undef, .undef, .undef, .undef, .undef, .undef, .undef, .undef, .undef, .undef, .undef, .undef, .undef, .undef, .undef, .undef, .undef, .undef, .undef, .undef, .undef, .undef, .undef, .undef, .undef, .undef, .undef, .undef, .undef, .undef, .undef, .undef, .undef, .undef, .undef, .undef, .undef, .undef, .undef, .undef, .undef, .undef, .undef, .undef, .undef, .undef, .undef, .undef, .undef, .undef, .undef, .undef, .undef, .undef, .undef, .undef, .undef, .undef], []⟩
noncomputable def ref03_word_2_0_s {R : Type} (K : Ex → St → Option R) (rc : ref03_word_2_0_D → Option R) (d : ref03_word_2_0_D) : Option R := ref03_word_2_0_B (fun z0 z1 z2 z3 => rc (z0, z1, z2, z3)) d.1 d.2.1 d.2.2.1 d.2.2.2 (ref03_word_2_0_x0 K)
noncomputable def ref03_word_2_0_A {R : Type} (K : Ex → St → Option R) (n : Nat) (d : ref03_word_2_0_D) : Option R := ref03_word_2_0_L n d.1 d.2.1 d.2.2.1 d.2.2.2 (ref03_word_2_0_x0 K)
abbrev ref03_word_2_0_p : List Pat := [.leaf (.str), .leaf (.int .i64), .leaf (.bool), .leaf (.undef), .leaf (.undef), .leaf (.undef), .leaf (.undef), .leaf (.int .i64), .leaf (.undef), .leaf (.undef), .leaf (.undef), .leaf (.undef), .leaf (.undef), .leaf (.undef), .leaf (.undef), .leaf (.undef), .leaf (.undef), .leaf (.undef), .leaf (.undef), .leaf (.undef), .leaf (.undef), .leaf (.undef), .leaf (.undef), .leaf (.undef), .leaf (.undef), .leaf (.undef), .leaf (.undef), .leaf (.undef), .leaf (.undef), .leaf (.undef), .leaf (.undef), .leaf (.undef), .leaf (.undef), .leaf (.undef), .leaf (.undef), .leaf (.undef), .leaf (.undef), .leaf (.undef), .leaf (.undef), .leaf (.undef), .leaf (.undef), .leaf (.undef), .leaf (.undef), .leaf (.undef), .leaf (.undef), .leaf (.undef), .leaf (.undef), .leaf (.undef), .leaf (.undef), .leaf (.undef), .leaf (.undef), .leaf (.undef), .leaf (.undef), .leaf (.undef), .leaf (.undef), .leaf (.undef), .leaf (.undef), .leaf (.undef), .leaf (.undef), .leaf (.undef), .leaf (.undef), .leaf (.undef), .leaf (.undef), .leaf (.undef), .leaf (.undef), .leaf (.undef), .leaf (.undef), .leaf (.undef), .leaf (.undef), .leaf (.undef)]
abbrev ref03_word_2_0_q : List HPat := []
noncomputable def ref03_word_2_0_f (x : Pat.dens ref03_word_2_0_p) (y : HPat.dens ref03_word_2_0_q) : Nat := (List.length x.1 + Int.natAbs x.2.1 + Int.natAbs x.2.2.2.2.2.2.2.1 + 64)
noncomputable def ref03_word_2_0_d (x : Pat.dens ref03_word_2_0_p) (y : HPat.dens ref03_word_2_0_q) : ref03_word_2_0_D := (x.1, x.2.1, x.2.2.1, x.2.2.2.2.2.2.2.1)
noncomputable def ref03_word_2_0_rr {R : Type} (L : ref03_word_2_0_ty R) : Pat.dens ref03_word_2_0_p → HPat.dens ref03_word_2_0_q → (Ex → St → Option R) → Option R := fun x y K => L (ref03_word_2_0_f x y) x.1 x.2.1 x.2.2.1 x.2.2.2.2.2.2.2.1 (ref03_word_2_0_x0 K)
noncomputable def ref03_word_T (R : Type) (ref03_word_2_0_L : ref03_word_2_0_ty R) : Nat → Option (Hint × LSpec R) := fun i => match i with
  | 2 => some (ref03_word_2_0_h, (loopBy ref03_word_2_0_p ref03_word_2_0_q (ref03_word_2_0_rr ref03_word_2_0_L) loopNo))
  | _ => none

theorem ref03_word_2_0_B_ok {R : Type} (ref03_word_2_0_L : ref03_word_2_0_ty R) (K : Ex → St → Option R) (rc : St → Option R) (d : ref03_word_2_0_D) : roundOf tt (ref03_word_E R) (ref03_word_T R ref03_word_2_0_L) 0 ((loopsOf (codeOf Tryd.f26)).getD 0 .skip) ref03_word_2_0_h (ref03_word_2_0_enc d) rc K = ref03_word_2_0_s K (fun d => rc (ref03_word_2_0_enc d)) d := by kernel_rfl
theorem ref03_word_2_0_A_succ {R : Type} (K : Ex → St → Option R) (n : Nat) (d : ref03_word_2_0_D) : ref03_word_2_0_A K (n + 1) d = ref03_word_2_0_s K (ref03_word_2_0_A K n) d := by kernel_rfl
theorem ref03_word_2_0_A_zero {R : Type} (K : Ex → St → Option R) (d : ref03_word_2_0_D) : ref03_word_2_0_A K 0 d = none := by kernel_rfl
theorem ref03_word_2_0_e_ok (x : Pat.dens ref03_word_2_0_p) (y : HPat.dens ref03_word_2_0_q) : (⟨Pat.encL ref03_word_2_0_p x, HPat.encL ref03_word_2_0_q y⟩ : St) = ref03_word_2_0_enc (ref03_word_2_0_d x y) := by kernel_rfl
theorem ref03_word_2_0_r_ok {R : Type} (x : Pat.dens ref03_word_2_0_p) (y : HPat.dens ref03_word_2_0_q) (K : Ex → St → Option R) : ref03_word_2_0_rr (ref03_word_2_0_L) x y K = ref03_word_2_0_A K (ref03_word_2_0_f x y) (ref03_word_2_0_d x y) := by kernel_rfl
theorem ref03_word_2_0_ok {R : Type} (other : LSpec R) (ho : LsOk tt (ref03_word_E R) (ref03_word_T R ref03_word_2_0_L) 0 ((loopsOf (codeOf Tryd.f26)).getD 0 .skip) ref03_word_2_0_h other) : LsOk tt (ref03_word_E R) (ref03_word_T R ref03_word_2_0_L) 0 ((loopsOf (codeOf Tryd.f26)).getD 0 .skip) ref03_word_2_0_h (loopBy ref03_word_2_0_p ref03_word_2_0_q (ref03_word_2_0_rr (ref03_word_2_0_L)) other) :=
  loopBy_tie (A := ref03_word_2_0_A) ho (loop_tie ref03_word_2_0_enc (ref03_word_2_0_s) (ref03_word_2_0_A) (ref03_word_2_0_A_zero) (ref03_word_2_0_B_ok ref03_word_2_0_L) (ref03_word_2_0_A_succ)) ref03_word_2_0_f ref03_word_2_0_d ref03_word_2_0_e_ok (ref03_word_2_0_r_ok)

noncomputable def ref03_word_X {R : Type} (ref03_word_2_0_L : ref03_word_2_0_ty R) (x1 : Str) (x2 : Int) (x3 : Bool) (k0 : Str → Option R) : Option R :=
  ref03_word_2_0_L (List.length x1 + Int.natAbs x2 + Int.natAbs 0 + 64) x1 x2 x3 0 (fun y9 y10 y11 => chk (decide ((0 : Int) ≤ (IntKind.i64.wrap (y10 + y11))) && decide ((IntKind.i64.wrap (y10 + y11)) ≤ y9.length)) (chk (decide ((0 : Int) ≤ y10) && decide (y10 ≤ (IntKind.i64.wrap (y10 + y11)))) (k0 ((y9.drop y10.toNat).take ((IntKind.i64.wrap (y10 + y11)).toNat - y10.toNat)))))
noncomputable def ref03_word {R : Type} : ref03_word_ty R := fun x1 x2 x3 k0 => ref03_word_X ref03_word_2_0_L x1 x2 x3 k0
theorem ref03_word_ok {R : Type} (ref03_word_2_0_L : ref03_word_2_0_ty R) (x1 : Str) (x2 : Int) (x3 : Bool) (k : V → Heap → Option R) : funK tt (ref03_word_E R) (ref03_word_T R ref03_word_2_0_L) false Tryd.f26 (codeOf Tryd.f26) [.str x1, .int .i64 x2, .bool x3] [] k =
    ref03_word_X ref03_word_2_0_L x1 x2 x3 (fun q0 => k (.str q0) []) := by kernel_rfl
theorem ref03_word_loops (R : Type) : ∀ a ∈ loopsOf (codeOf Tryd.f26), LoopOk tt (ref03_word_E R) (ref03_word_T R ref03_word_2_0_L) 0 a := by
  refine loops_ok 1 (by kernel_rfl) fun i hi => ?_
  match i, hi with
  | 0, _ => exact loopOk_some (by kernel_rfl) (ref03_word_2_0_ok _ loopNo_ok)
  | n + 1, hi => omega
theorem ref03_word_S_ok (R : Type) (other : Yard.Spec R) (ho : Yard.Spec.Ok Tryd.prog 26 other) : Yard.Spec.Ok Tryd.prog 26 (specBy ref03_word_p ref03_word_q (ref03_word_rr ref03_word) other) :=
  specBy_ok ho (funK_sound TT mixed (ref03_word_EOk R) (keep := false) rfl rfl rfl rfl 0 (ref03_word_loops R)) fun (x : Pat.dens ref03_word_p) (y : HPat.dens ref03_word_q) k => ref03_word_ok ref03_word_2_0_L x.1 x.2.1 x.2.2.1 k

/-! ### humpyard/humpyardref01.digits -/
abbrev ref01_digits_ty (R : Type) : Type := Str → Int → (Int → Option R) → Option R
abbrev ref01_digits_p : List Pat := [.leaf (.str), .leaf (.int .i64)]
abbrev ref01_digits_q : List HPat := []
noncomputable def ref01_digits_rr {R : Type} (fn : ref01_digits_ty R) : Pat.dens ref01_digits_p → HPat.dens ref01_digits_q → (V → Heap → Option R) → Option R := fun x y k => fn x.1 x.2.1 (fun q0 => k (.int .i64 q0) [])
abbrev ref01_digits_2_0_ty (R : Type) : Type := Nat → Str → Int → Int → (Int → Option R) → Option R
noncomputable def ref01_digits_E (R : Type) : Env R := fun i => match i with
  | _ => none
theorem ref01_digits_EOk (R : Type) : EOk Tryd.prog (ref01_digits_E R) := by
  intro i b sp h
  unfold ref01_digits_E at h
  split at h
  · cases h

noncomputable def ref01_digits_2_0_B {R : Type} (rec' : Str → Int → Int → Option R) (x3 : Str) (x4 : Int) (x5 : Int) (e0 : Int → Option R) : Option R :=
  bif (decide ((IntKind.i64.wrap (x4 + x5)) < (x3.length : Int))) then (chk (decide ((0 : Int) ≤ (IntKind.i64.wrap (x4 + x5))) && decide ((IntKind.i64.wrap (x4 + x5)) < x3.length)) (bif (decide (((x3.getD ((IntKind.i64.wrap (x4 + x5)).toNat) 0).toNat : Int) ≥ (48 : Int))) then (chk (decide ((0 : Int) ≤ (IntKind.i64.wrap (x4 + x5))) && decide ((IntKind.i64.wrap (x4 + x5)) < x3.length)) (bif (decide (((x3.getD ((IntKind.i64.wrap (x4 + x5)).toNat) 0).toNat : Int) ≤ (57 : Int))) then (rec' x3 x4 (IntKind.i64.wrap (x5 + 1))) else (e0 x5))) else (e0 x5))) else (e0 x5)
noncomputable def ref01_digits_2_0_L {R : Type} : ref01_digits_2_0_ty R
  | 0, _, _, _, _ => none
  | n + 1, x0', x1', x2', e0 => ref01_digits_2_0_B (fun x0' x1' x2' => ref01_digits_2_0_L n x0' x1' x2' e0) x0' x1' x2' e0
noncomputable def ref01_digits_2_0_h : Hint := { live := [0, 1, 5], own := [], rows := [], cells := [], drop := [], out := [4, 5] }
abbrev ref01_digits_2_0_D : Type := Str × Int × Int
noncomputable def ref01_digits_2_0_enc : ref01_digits_2_0_D → St := fun d => ⟨[.str d.1, .int .i64 d.2.1, .undef, .undef, .undef, .int .i64 d.2.2, .undef, .undef, .undef, .undef, .undef, .undef, .undef, .undef, .undef, .undef, .undef, .undef, .undef, .undef, .undef, .undef, .undef, .undef, .undef, .undef, .undef, .undef, .undef, .undef, .undef], []⟩
noncomputable def ref01_digits_2_0_x0 {R : Type} (K : Ex → St → Option R) (q0 : Int) : Option R := K (.exit 0) ⟨[.undef, .undef, .undef, .undef, .undef, .int .i64 q0, .undef, .undef, .undef, .undef, .undef, .undef, .undef, .undef, .undef, .undef, .undef, .undef, .undef, .undef, .undef, .undef, .undef, .undef, .undef, .undef, .undef, .undef, .undef, .undef, .undef], []⟩
noncomputable def ref01_digits_2_0_s {R : Type} (K : Ex → St → Option R) (rc : ref01_digits_2_0_D → Option R) (d : ref01_digits_2_0_D) : Option R := ref01_digits_2_0_B (fun z0 z1 z2 => rc (z0, z1, z2)) d.1 d.2.1 d.2.2 (ref01_digits_2_0_x0 K)
noncomputable def ref01_digits_2_0_A {R : Type} (K : Ex → St → Option R) (n : Nat) (d : ref01_digits_2_0_D) : Option R := ref01_digits_2_0_L n d.1 d.2.1 d.2.2 (ref01_digits_2_0_x0 K)
abbrev ref01_digits_2_0_p : List Pat := [.leaf (.str), .leaf (.int .i64), .leaf (.undef), .leaf (.undef), .leaf (.undef), .leaf (.int .i64), .leaf (.undef), .leaf (.undef), .leaf (.undef), .leaf (.undef), .leaf (.undef), .leaf (.undef), .leaf (.undef), .leaf (.undef), .leaf (.undef), .leaf (.undef), .leaf (.undef), .leaf (.undef), .leaf (.undef), .leaf (.undef), .leaf (.undef), .leaf (.undef), .leaf (.undef), .leaf (.undef), .leaf (.undef), .leaf (.undef), .leaf (.undef), .leaf (.undef), .leaf (.undef), .leaf (.undef), .leaf (.undef)]
abbrev ref01_digits_2_0_q : List HPat := []
noncomputable def ref01_digits_2_0_f (x : Pat.dens ref01_digits_2_0_p) (y : HPat.dens ref01_digits_2_0_q) : Nat := (List.length x.1 + Int.natAbs x.2.1 + Int.natAbs x.2.2.2.2.2.1 + 64)
noncomputable def ref01_digits_2_0_d (x : Pat.dens ref01_digits_2_0_p) (y : HPat.dens ref01_digits_2_0_q) : ref01_digits_2_0_D := (x.1, x.2.1, x.2.2.2.2.2.1)
noncomputable def ref01_digits_2_0_rr {R : Type} (L : ref01_digits_2_0_ty R) : Pat.dens ref01_digits_2_0_p → HPat.dens ref01_digits_2_0_q → (Ex → St → Option R) → Option R := fun x y K => L (ref01_digits_2_0_f x y) x.1 x.2.1 x.2.2.2.2.2.1 (ref01_digits_2_0_x0 K)
noncomputable def ref01_digits_T (R : Type) (ref01_digits_2_0_L : ref01_digits_2_0_ty R) : Nat → Option (Hint × LSpec R) := fun i => match i with
  | 2 => some (ref01_digits_2_0_h, (loopBy ref01_digits_2_0_p ref01_digits_2_0_q (ref01_digits_2_0_rr ref01_digits_2_0_L) loopNo))
  | _ => none

theorem ref01_digits_2_0_B_ok {R : Type} (ref01_digits_2_0_L : ref01_digits_2_0_ty R) (K : Ex → St → Option R) (rc : St → Option R) (d : ref01_digits_2_0_D) : roundOf tt (ref01_digits_E R) (ref01_digits_T R ref01_digits_2_0_L) 0 ((loopsOf (codeOf Tryd.f52)).getD 0 .skip) ref01_digits_2_0_h (ref01_digits_2_0_enc d) rc K = ref01_digits_2_0_s K (fun d => rc (ref01_digits_2_0_enc d)) d := by kernel_rfl
theorem ref01_digits_2_0_A_succ {R : Type} (K : Ex → St → Option R) (n : Nat) (d : ref01_digits_2_0_D) : ref01_digits_2_0_A K (n + 1) d = ref01_digits_2_0_s K (ref01_digits_2_0_A K n) d := by kernel_rfl
theorem ref01_digits_2_0_A_zero {R : Type} (K : Ex → St → Option R) (d : ref01_digits_2_0_D) : ref01_digits_2_0_A K 0 d = none := by kernel_rfl
theorem ref01_digits_2_0_e_ok (x : Pat.dens ref01_digits_2_0_p) (y : HPat.dens ref01_digits_2_0_q) : (⟨Pat.encL ref01_digits_2_0_p x, HPat.encL ref01_digits_2_0_q y⟩ : St) = ref01_digits_2_0_enc (ref01_digits_2_0_d x y) := by kernel_rfl
theorem ref01_digits_2_0_r_ok {R : Type} (x : Pat.dens ref01_digits_2_0_p) (y : HPat.dens ref01_digits_2_0_q) (K : Ex → St → Option R) : ref01_digits_2_0_rr (ref01_digits_2_0_L) x y K = ref01_digits_2_0_A K (ref01_digits_2_0_f x y) (ref01_digits_2_0_d x y) := by kernel_rfl
theorem ref01_digits_2_0_ok {R : Type} (other : LSpec R) (ho : LsOk tt (ref01_digits_E R) (ref01_digits_T R ref01_digits_2_0_L) 0 ((loopsOf (codeOf Tryd.f52)).getD 0 .skip) ref01_digits_2_0_h other) : LsOk tt (ref01_digits_E R) (ref01_digits_T R ref01_digits_2_0_L) 0 ((loopsOf (codeOf Tryd.f52)).getD 0 .skip) ref01_digits_2_0_h (loopBy ref01_digits_2_0_p ref01_digits_2_0_q (ref01_digits_2_0_rr (ref01_digits_2_0_L)) other) :=
  loopBy_tie (A := ref01_digits_2_0_A) ho (loop_tie ref01_digits_2_0_enc (ref01_digits_2_0_s) (ref01_digits_2_0_A) (ref01_digits_2_0_A_zero) (ref01_digits_2_0_B_ok ref01_digits_2_0_L) (ref01_digits_2_0_A_succ)) ref01_digits_2_0_f ref01_digits_2_0_d ref01_digits_2_0_e_ok (ref01_digits_2_0_r_ok)

noncomputable def ref01_digits_X {R : Type} (ref01_digits_2_0_L : ref01_digits_2_0_ty R) (x1 : Str) (x2 : Int) (k0 : Int → Option R) : Option R :=
  ref01_digits_2_0_L (List.length x1 + Int.natAbs x2 + Int.natAbs 0 + 64) x1 x2 0 (fun y7 => k0 y7)
noncomputable def ref01_digits {R : Type} : ref01_digits_ty R := fun x1 x2 k0 => ref01_digits_X ref01_digits_2_0_L x1 x2 k0
theorem ref01_digits_ok {R : Type} (ref01_digits_2_0_L : ref01_digits_2_0_ty R) (x1 : Str) (x2 : Int) (k : V → Heap → Option R) : funK tt (ref01_digits_E R) (ref01_digits_T R ref01_digits_2_0_L) false Tryd.f52 (codeOf Tryd.f52) [.str x1, .int .i64 x2] [] k =
    ref01_digits_X ref01_digits_2_0_L x1 x2 (fun q0 => k (.int .i64 q0) []) := by kernel_rfl
theorem ref01_digits_loops (R : Type) : ∀ a ∈ loopsOf (codeOf Tryd.f52), LoopOk tt (ref01_digits_E R) (ref01_digits_T R ref01_digits_2_0_L) 0 a := by
  refine loops_ok 1 (by kernel_rfl) fun i hi => ?_
  match i, hi with
  | 0, _ => exact loopOk_some (by kernel_rfl) (ref01_digits_2_0_ok _ loopNo_ok)
  | n + 1, hi => omega
theorem ref01_digits_S_ok (R : Type) (other : Yard.Spec R) (ho : Yard.Spec.Ok Tryd.prog 52 other) : Yard.Spec.Ok Tryd.prog 52 (specBy ref01_digits_p ref01_digits_q (ref01_digits_rr ref01_digits) other) :=
  specBy_ok ho (funK_sound TT mixed (ref01_digits_EOk R) (keep := false) rfl rfl rfl rfl 0 (ref01_digits_loops R)) fun (x : Pat.dens ref01_digits_p) (y : HPat.dens ref01_digits_q) k => ref01_digits_ok ref01_digits_2_0_L x.1 x.2.1 k

end Go.Proofs.YtmlkkgfenfdndaaDoor

/-
  Functions of the program as pure Lean functions, and the ties; printed by wip/tools/emit.py.
-/
set_option maxRecDepth 100000
set_option linter.unusedVariables false
namespace Go.Proofs.YtmlkkgfenfdndaaDoor
open Go Go.Yard

/-! ### humpyard/humpyardref01.Make -/
abbrev ref01_Make_ty (R : Type) : Type := Int → Int → (Dcm → Bool → Option R) → Option R
abbrev ref01_Make_p : List Pat := [.leaf (.int .i64), .leaf (.int .i64)]
abbrev ref01_Make_q : List HPat := []
noncomputable def ref01_Make_rr {R : Type} (fn : ref01_Make_ty R) : Pat.dens ref01_Make_p → HPat.dens ref01_Make_q → (V → Heap → Option R) → Option R := fun x y k => fn x.1 x.2.1 (fun q0 q1 => k (.tuple [.agg [.int .i64 q0.mant, .int .i64 q0.exp], .bool q1]) [])
abbrev ref01_Make_3_0_ty (R : Type) : Type := Nat → Int → Int → Dcm → (Int → Int → Dcm → Option R) → (Int → Int → Bool → Dcm → Option R) → Option R
noncomputable def ref01_Make_E (R : Type) : Env R := fun i => match i with
  | _ => none
theorem ref01_Make_EOk (R : Type) : EOk Tryd.prog (ref01_Make_E R) := by
  intro i b sp h
  unfold ref01_Make_E at h
  split at h
  · cases h

noncomputable def ref01_Make_3_0_B {R : Type} (rec' : Int → Int → Dcm → Option R) (x3 : Int) (x4 : Int) (x5 : Dcm) (e0 : Int → Int → Dcm → Option R) (e1 : Int → Int → Bool → Dcm → Option R) : Option R :=
  bif ((Int.tmod x3 10) == 0) then (bif (decide (x4 > (1099511627776 : Int))) then (e1 (IntKind.i64.wrap (Int.tdiv x3 10)) x4 false (⟨0, 0⟩ : Dcm)) else (rec' (IntKind.i64.wrap (Int.tdiv x3 10)) (IntKind.i64.wrap (x4 + 1)) x5)) else (e0 x3 x4 x5)
noncomputable def ref01_Make_3_0_L {R : Type} : ref01_Make_3_0_ty R
  | 0, _, _, _, _, _ => none
  | n + 1, x0', x1', x2', e0, e1 => ref01_Make_3_0_B (fun x0' x1' x2' => ref01_Make_3_0_L n x0' x1' x2' e0 e1) x0' x1' x2' e0 e1
noncomputable def ref01_Make_3_0_h : Hint := { live := [0, 1, 4], own := [], rows := [], cells := [], drop := [], out := [0, 1, 4, 5] }
abbrev ref01_Make_3_0_D : Type := Int × Int × Dcm
noncomputable def ref01_Make_3_0_enc : ref01_Make_3_0_D → St := fun d => ⟨[.int .i64 d.1, .int .i64 d.2.1, .undef, .undef, .ptr 0 0, .undef, .undef, .undef, .undef, .undef, .undef, .undef, .undef, .undef, .undef, .undef, .undef, .undef, .undef, .undef, .undef, .undef, .undef, .undef, .undef, .undef, .undef, .undef, .undef, .undef, .undef, .undef, .undef, .undef, .undef, .undef, .undef], [.cells [.int .i64 d.2.2.mant, .int .i64 d.2.2.exp]]⟩
noncomputable def ref01_Make_3_0_x0 {R : Type} (K : Ex → St → Option R) (q0 : Int) (q1 : Int) (q2 : Dcm) : Option R := K (.exit 0) ⟨[.int .i64 q0, .int .i64 q1, .undef, .undef, .ptr 0 0, .undef, .undef, .undef, .undef, .undef, .undef, .undef, .undef, .undef, .undef, .undef, .undef, .undef, .undef, .undef, .undef, .undef, .undef, .undef, .undef, .undef, .undef, .undef, .undef, .undef, .undef, .undef, .undef, .undef, .undef, .undef, .undef], [.cells [.int .i64 q2.mant, .int .i64 q2.exp]]⟩
noncomputable def ref01_Make_3_0_x1 {R : Type} (K : Ex → St → Option R) (q0 : Int) (q1 : Int) (q2 : Bool) (q3 : Dcm) : Option R := K (.ret) ⟨[.int .i64 q0, .int .i64 q1, .undef, .undef, .ptr 0 0, .bool q2, .undef, .undef, .undef, .undef, .undef, .undef, .undef, .undef, .undef, .undef, .undef, .undef, .undef, .undef, .undef, .undef, .undef, .undef, .undef, .undef, .undef, .undef, .undef, .undef, .undef, .undef, .undef, .undef, .undef, .undef, .undef], [.cells [.int .i64 q3.mant, .int .i64 q3.exp]]⟩
noncomputable def ref01_Make_3_0_s {R : Type} (K : Ex → St → Option R) (rc : ref01_Make_3_0_D → Option R) (d : ref01_Make_3_0_D) : Option R := ref01_Make_3_0_B (fun z0 z1 z2 => rc (z0, z1, z2)) d.1 d.2.1 d.2.2 (ref01_Make_3_0_x0 K) (ref01_Make_3_0_x1 K)
noncomputable def ref01_Make_3_0_A {R : Type} (K : Ex → St → Option R) (n : Nat) (d : ref01_Make_3_0_D) : Option R := ref01_Make_3_0_L n d.1 d.2.1 d.2.2 (ref01_Make_3_0_x0 K) (ref01_Make_3_0_x1 K)
abbrev ref01_Make_3_0_p : List Pat := [.leaf (.int .i64), .leaf (.int .i64), .leaf (.undef), .leaf (.undef), .leaf (.ptr 0 0), .leaf (.undef), .leaf (.undef), .leaf (.undef), .leaf (.undef), .leaf (.undef), .leaf (.undef), .leaf (.undef), .leaf (.undef), .leaf (.undef), .leaf (.undef), .leaf (.undef), .leaf (.undef), .leaf (.undef), .leaf (.undef), .leaf (.undef), .leaf (.undef), .leaf (.undef), .leaf (.undef), .leaf (.undef), .leaf (.undef), .leaf (.undef), .leaf (.undef), .leaf (.undef), .leaf (.undef), .leaf (.undef), .leaf (.undef), .leaf (.undef), .leaf (.undef), .leaf (.undef), .leaf (.undef), .leaf (.undef), .leaf (.undef)]
abbrev ref01_Make_3_0_q : List HPat := [.cells [.int .i64, .int .i64]]
noncomputable def ref01_Make_3_0_f (x : Pat.dens ref01_Make_3_0_p) (y : HPat.dens ref01_Make_3_0_q) : Nat := (Int.natAbs x.1 + Int.natAbs x.2.1 + Dcm.fu (⟨y.1.1, y.1.2.1⟩ : Dcm) + 64)
noncomputable def ref01_Make_3_0_d (x : Pat.dens ref01_Make_3_0_p) (y : HPat.dens ref01_Make_3_0_q) : ref01_Make_3_0_D := (x.1, x.2.1, (⟨y.1.1, y.1.2.1⟩ : Dcm))
noncomputable def ref01_Make_3_0_rr {R : Type} (L : ref01_Make_3_0_ty R) : Pat.dens ref01_Make_3_0_p → HPat.dens ref01_Make_3_0_q → (Ex → St → Option R) → Option R := fun x y K => L (ref01_Make_3_0_f x y) x.1 x.2.1 (⟨y.1.1, y.1.2.1⟩ : Dcm) (ref01_Make_3_0_x0 K) (ref01_Make_3_0_x1 K)
noncomputable def ref01_Make_T (R : Type) (ref01_Make_3_0_L : ref01_Make_3_0_ty R) : Nat → Option (Hint × LSpec R) := fun i => match i with
  | 3 => some (ref01_Make_3_0_h, (loopBy ref01_Make_3_0_p ref01_Make_3_0_q (ref01_Make_3_0_rr ref01_Make_3_0_L) loopNo))
  | _ => none

theorem ref01_Make_3_0_B_ok {R : Type} (ref01_Make_3_0_L : ref01_Make_3_0_ty R) (K : Ex → St → Option R) (rc : St → Option R) (d : ref01_Make_3_0_D) : roundOf tt (ref01_Make_E R) (ref01_Make_T R ref01_Make_3_0_L) 0 ((loopsOf (codeOf Tryd.f53)).getD 0 .skip) ref01_Make_3_0_h (ref01_Make_3_0_enc d) rc K = ref01_Make_3_0_s K (fun d => rc (ref01_Make_3_0_enc d)) d := by kernel_rfl
theorem ref01_Make_3_0_A_succ {R : Type} (K : Ex → St → Option R) (n : Nat) (d : ref01_Make_3_0_D) : ref01_Make_3_0_A K (n + 1) d = ref01_Make_3_0_s K (ref01_Make_3_0_A K n) d := by kernel_rfl
theorem ref01_Make_3_0_A_zero {R : Type} (K : Ex → St → Option R) (d : ref01_Make_3_0_D) : ref01_Make_3_0_A K 0 d = none := by kernel_rfl
theorem ref01_Make_3_0_e_ok (x : Pat.dens ref01_Make_3_0_p) (y : HPat.dens ref01_Make_3_0_q) : (⟨Pat.encL ref01_Make_3_0_p x, HPat.encL ref01_Make_3_0_q y⟩ : St) = ref01_Make_3_0_enc (ref01_Make_3_0_d x y) := by kernel_rfl
theorem ref01_Make_3_0_r_ok {R : Type} (x : Pat.dens ref01_Make_3_0_p) (y : HPat.dens ref01_Make_3_0_q) (K : Ex → St → Option R) : ref01_Make_3_0_rr (ref01_Make_3_0_L) x y K = ref01_Make_3_0_A K (ref01_Make_3_0_f x y) (ref01_Make_3_0_d x y) := by kernel_rfl
theorem ref01_Make_3_0_ok {R : Type} (other : LSpec R) (ho : LsOk tt (ref01_Make_E R) (ref01_Make_T R ref01_Make_3_0_L) 0 ((loopsOf (codeOf Tryd.f53)).getD 0 .skip) ref01_Make_3_0_h other) : LsOk tt (ref01_Make_E R) (ref01_Make_T R ref01_Make_3_0_L) 0 ((loopsOf (codeOf Tryd.f53)).getD 0 .skip) ref01_Make_3_0_h (loopBy ref01_Make_3_0_p ref01_Make_3_0_q (ref01_Make_3_0_rr (ref01_Make_3_0_L)) other) :=
  loopBy_tie (A := ref01_Make_3_0_A) ho (loop_tie ref01_Make_3_0_enc (ref01_Make_3_0_s) (ref01_Make_3_0_A) (ref01_Make_3_0_A_zero) (ref01_Make_3_0_B_ok ref01_Make_3_0_L) (ref01_Make_3_0_A_succ)) ref01_Make_3_0_f ref01_Make_3_0_d ref01_Make_3_0_e_ok (ref01_Make_3_0_r_ok)

noncomputable def ref01_Make_X {R : Type} (ref01_Make_3_0_L : ref01_Make_3_0_ty R) (x1 : Int) (x2 : Int) (k0 : Dcm → Bool → Option R) : Option R :=
  bif (x1 == 0) then (k0 (⟨0, 0⟩ : Dcm) true) else (ref01_Make_3_0_L (Int.natAbs x1 + Int.natAbs x2 + Dcm.fu (⟨0, 0⟩ : Dcm) + 64) x1 x2 (⟨0, 0⟩ : Dcm) (fun y6 y7 y8 => bif (decide (y6 > (1000000000000000 : Int))) then (k0 (⟨0, 0⟩ : Dcm) false) else (bif (decide (y6 < (-1000000000000000 : Int))) then (k0 (⟨0, 0⟩ : Dcm) false) else (bif (decide (y7 > (9 : Int))) then (k0 (⟨0, 0⟩ : Dcm) false) else (bif (decide (y7 < (-9 : Int))) then (k0 (⟨0, 0⟩ : Dcm) false) else (k0 (⟨y6, y7⟩ : Dcm) true))))) (fun y9 y10 y11 y12 => k0 y12 y11))
noncomputable def ref01_Make {R : Type} : ref01_Make_ty R := fun x1 x2 k0 => ref01_Make_X ref01_Make_3_0_L x1 x2 k0
theorem ref01_Make_ok {R : Type} (ref01_Make_3_0_L : ref01_Make_3_0_ty R) (x1 : Int) (x2 : Int) (k : V → Heap → Option R) : funK tt (ref01_Make_E R) (ref01_Make_T R ref01_Make_3_0_L) false Tryd.f53 (codeOf Tryd.f53) [.int .i64 x1, .int .i64 x2] [] k =
    ref01_Make_X ref01_Make_3_0_L x1 x2 (fun q0 q1 => k (.tuple [.agg [.int .i64 q0.mant, .int .i64 q0.exp], .bool q1]) []) := by kernel_rfl
theorem ref01_Make_loops (R : Type) : ∀ a ∈ loopsOf (codeOf Tryd.f53), LoopOk tt (ref01_Make_E R) (ref01_Make_T R ref01_Make_3_0_L) 0 a := by
  refine loops_ok 1 (by kernel_rfl) fun i hi => ?_
  match i, hi with
  | 0, _ => exact loopOk_some (by kernel_rfl) (ref01_Make_3_0_ok _ loopNo_ok)
  | n + 1, hi => omega
theorem ref01_Make_S_ok (R : Type) (other : Yard.Spec R) (ho : Yard.Spec.Ok Tryd.prog 53 other) : Yard.Spec.Ok Tryd.prog 53 (specBy ref01_Make_p ref01_Make_q (ref01_Make_rr ref01_Make) other) :=
  specBy_ok ho (funK_sound TT mixed (ref01_Make_EOk R) (keep := false) rfl rfl rfl rfl 0 (ref01_Make_loops R)) fun (x : Pat.dens ref01_Make_p) (y : HPat.dens ref01_Make_q) k => ref01_Make_ok ref01_Make_3_0_L x.1 x.2.1 k

end Go.Proofs.YtmlkkgfenfdndaaDoor

/-
  Functions of the program as pure Lean functions, and the ties; printed by wip/tools/emit.py.
-/
set_option maxRecDepth 100000
set_option linter.unusedVariables false
namespace Go.Proofs.YtmlkkgfenfdndaaDoor
open Go Go.Yard

/-! ### humpyard/humpyardref01.Parse -/
abbrev ref01_Parse_ty (R : Type) : Type := Str → (Dcm → Bool → Option R) → Option R
abbrev ref01_Parse_p : List Pat := [.leaf (.str)]
abbrev ref01_Parse_q : List HPat := []
noncomputable def ref01_Parse_rr {R : Type} (fn : ref01_Parse_ty R) : Pat.dens ref01_Parse_p → HPat.dens ref01_Parse_q → (V → Heap → Option R) → Option R := fun x y k => fn x.1 (fun q0 q1 => k (.tuple [.agg [.int .i64 q0.mant, .int .i64 q0.exp], .bool q1]) [])
abbrev ref01_Parse_32_0_ty (R : Type) : Type := Nat → Str → Int → Int → Int → Str → Int → Bool → Int → Int → Dcm → (Str → Int → Int → Int → Str → Int → Bool → Int → Dcm → Option R) → Option R
abbrev ref01_Parse_41_0_ty (R : Type) : Type := Nat → Int → Str → Int → Dcm → (Int → Str → Int → Dcm → Option R) → Option R
abbrev ref01_Parse_43_0_ty (R : Type) : Type := Nat → Int → Str → Int → Dcm → (Int → Str → Int → Dcm → Option R) → Option R
abbrev ref01_Parse_50_0_ty (R : Type) : Type := Nat → Int → Str → Int → Int → Int → Dcm → (Int → Int → Int → Dcm → Option R) → Option R
noncomputable def ref01_Parse_E (R : Type) (ref01_Make : ref01_Make_ty R) (ref01_digits : ref01_digits_ty R) : Env R := fun i => match i with
  | 53 => some (true, (specBy ref01_Make_p ref01_Make_q (ref01_Make_rr ref01_Make) specNo))
  | 52 => some (true, (specBy ref01_digits_p ref01_digits_q (ref01_digits_rr ref01_digits) specNo))
  | _ => none
theorem ref01_Parse_EOk (R : Type) : EOk Tryd.prog (ref01_Parse_E R ref01_Make ref01_digits) := by
  intro i b sp h
  unfold ref01_Parse_E at h
  split at h
  · cases h; exact ⟨(ref01_Make_S_ok R _ (specNo_ok _)), fun h => nomatch h⟩
  · cases h; exact ⟨(ref01_digits_S_ok R _ (specNo_ok _)), fun h => nomatch h⟩
  · cases h

noncomputable def ref01_Parse_32_0_B {R : Type} (rec' : Str → Int → Int → Int → Str → Int → Bool → Int → Int → Dcm → Option R) (x18 : Str) (x19 : Int) (x20 : Int) (x21 : Int) (x22 : Str) (x23 : Int) (x24 : Bool) (x25 : Int) (x26 : Int) (x27 : Dcm) (e0 : Str → Int → Int → Int → Str → Int → Bool → Int → Dcm → Option R) : Option R :=
  bif (decide (x26 < (IntKind.i64.wrap (x19 + x21)))) then (chk (decide ((0 : Int) ≤ x26) && decide (x26 < x18.length)) (rec' x18 x19 x20 x21 x22 x23 x24 (min (IntKind.i64.wrap ((IntKind.i64.wrap (10 * x25)) + (IntKind.i64.wrap (IntKind.u8.wrap (((x18.getD x26.toNat 0).toNat : Int) - 48))))) 100000) (IntKind.i64.wrap (x26 + 1)) x27)) else (e0 x18 x19 x20 x21 x22 x23 x24 x25 x27)
noncomputable def ref01_Parse_32_0_L {R : Type} : ref01_Parse_32_0_ty R
  | 0, _, _, _, _, _, _, _, _, _, _, _ => none
  | n + 1, x0', x1', x2', x3', x4', x5', x6', x7', x8', x9', e0 => ref01_Parse_32_0_B (fun x0' x1' x2' x3' x4' x5' x6' x7' x8' x9' => ref01_Parse_32_0_L n x0' x1' x2' x3' x4' x5' x6' x7' x8' x9' e0) x0' x1' x2' x3' x4' x5' x6' x7' x8' x9' e0
noncomputable def ref01_Parse_32_0_h : Hint := { live := [0, 2, 4, 5, 6, 7, 8, 9, 10, 11], own := [], rows := [], cells := [], drop := [], out := [0, 2, 3, 4, 5, 6, 7, 8, 9, 10] }
abbrev ref01_Parse_32_0_D : Type := Str × Int × Int × Int × Str × Int × Bool × Int × Int × Dcm
noncomputable def ref01_Parse_32_0_enc : ref01_Parse_32_0_D → St := fun d => ⟨[.str d.1, .undef, .ptr 0 0, .undef, .int .i64 d.2.1, .int .i64 d.2.2.1, .int .i64 d.2.2.2.1, .str d.2.2.2.2.1, .int .i64 d.2.2.2.2.2.1, .bool d.2.2.2.2.2.2.1, .int .i64 d.2.2.2.2.2.2.2.1, .int .i64 d.2.2.2.2.2.2.2.2.1, .undef, .undef, .undef, .undef, .undef, .undef, .undef, .undef, .undef, .undef, .undef, .undef, .undef, .undef, .undef, .undef, .undef, .undef, .undef, .undef, .undef, .undef, .undef, .undef, .undef, .undef, .undef, .undef, .undef, .undef, .undef, .undef, .undef, .undef, .undef, .undef, .undef, .undef, .undef, .undef, .undef, .undef, .undef, .undef, .undef, .undef, .undef, .undef, .undef, .undef, .undef, .undef, .undef, .undef, .undef, .undef, .undef, .undef, .undef, .undef, .undef, .undef, .undef, .undef, .undef, .undef, .undef, .undef, .undef, .undef, .undef, .undef, .undef, .undef, .undef, .undef, .undef, .undef, .undef, .undef, .undef, .undef, .undef, .undef, .undef, .undef, .undef, .undef, .undef, .undef, .undef, .undef, .undef, .undef, .undef, .undef, .undef, .undef, .undef, .undef, .undef, .undef, .undef, .undef, .undef, .undef, .undef, .undef, .undef, .undef, .undef, .undef, .undef, .undef, .undef, .undef, .undef, .undef, .undef, .undef, .undef, .undef, .undef, .undef, .undef, .undef, .undef, .undef, .undef, .undef, .undef, .undef, .undef, .undef, .undef, .undef, .undef, .undef, .undef, .undef, .undef, .undef, .undef, .undef, .undef, .undef, .undef, .undef, .undef, .undef, .undef, .undef, .undef, .undef, .undef, .undef, .undef, .undef, .undef, .undef, .undef, .undef, .undef, .undef, .undef, .undef, .undef, .undef, .undef, .undef, .undef, .undef, .undef, .undef, .undef, .undef, .undef, .undef, .undef, .undef, .undef, .undef, .undef, .undef, .undef, .undef, .undef, .undef, .undef, .undef, .undef, .undef, .undef, .undef, .undef, .undef, .undef, .undef, .undef, .undef, .undef, .undef, .undef, .undef, .undef, .undef], [.cells [.int .i64 d.2.2.2.2.2.2.2.2.2.mant, .int .i64 d.2.2.2.2.2.2.2.2.2.exp]]⟩
noncomputable def ref01_Parse_32_0_x0 {R : Type} (K : Ex → St → Option R) (q0 : Str) (q1 : Int) (q2 : Int) (q3 : Int) (q4 : Str) (q5 : Int) (q6 : Bool) (q7 : Int) (q8 : Dcm) : Option R := K (.exit 0) ⟨[.str q0, .undef, .ptr 0 0, .undef, .int .i64 q1, .int .i64 q2, .int .i64 q3, .str q4, .int .i64 q5, .bool q6, .int .i64 q7, .undef, .undef, .undef, .undef, .undef, .undef, .undef, .undef, .undef, .undef, .undef, .undef, .undef, .undef, .undef, .undef, .undef, .undef, .undef, .undef, .undef, .undef, .undef, .undef, .undef, .undef, .undef, .undef, .undef, .undef, .undef, .undef, .undef, .undef, .undef, .undef, .undef, .undef, .undef, .undef, .undef, .undef, .undef, .undef, .undef, .undef, .undef, .undef, .undef, .undef, .undef, .undef, .undef, .undef, .undef, .undef, .undef, .undef, .undef, .undef, .undef, .undef, .undef, .undef, .undef, .undef, .undef, .undef, .undef, .undef, .undef, .undef, .undef, .undef, .undef, .undef, .undef, .undef, .undef, .undef, .undef, .undef, .undef, .undef, .undef, .undef, .undef, .undef, .undef, .undef, .undef, .undef, .undef, .undef, .undef, .undef, .undef, .undef, .undef, .undef, .undef, .undef, .undef, .undef, .undef, .undef, .undef, .undef, .undef, .undef, .undef, .undef, .undef, .undef, .undef, .undef, .undef, .undef, .undef, .undef, .undef, .undef, .undef, .undef, .undef, .undef, .undef, .undef, .undef, .undef, .undef, .undef, .undef, .undef, .undef, .undef, .undef, .undef, .undef, .undef, .undef, .undef, .undef, .undef, .undef, .undef, .undef, .undef, .undef, .undef, .undef, .undef, .undef, .undef, .undef, .undef, .undef, .undef, .undef, .undef, .undef, .undef, .undef, .undef, .undef, .undef, .undef, .undef, .undef, .undef, .undef, .undef, .undef, .undef, .undef, .undef, .undef, .undef, .undef, .undef, .undef, .undef, .undef, .undef, .undef, .undef, .undef, .undef, .undef, .undef, .undef, .undef, .undef, .undef, .undef, .undef, .undef, .undef, .undef, .undef, .undef, .undef, .undef, .undef, .undef, .undef, .undef], [.cells [.int .i64 q8.mant, .int .i64 q8.exp]]⟩
noncomputable def ref01_Parse_32_0_s {R : Type} (K : Ex → St → Option R) (rc : ref01_Parse_32_0_D → Option R) (d : ref01_Parse_32_0_D) : Option R := ref01_Parse_32_0_B (fun z0 z1 z2 z3 z4 z5 z6 z7 z8 z9 => rc (z0, z1, z2, z3, z4, z5, z6, z7, z8, z9)) d.1 d.2.1 d.2.2.1 d.2.2.2.1 d.2.2.2.2.1 d.2.2.2.2.2.1 d.2.2.2.2.2.2.1 d.2.2.2.2.2.2.2.1 d.2.2.2.2.2.2.2.2.1 d.2.2.2.2.2.2.2.2.2 (ref01_Parse_32_0_x0 K)
noncomputable def ref01_Parse_32_0_A {R : Type} (K : Ex → St → Option R) (n : Nat) (d : ref01_Parse_32_0_D) : Option R := ref01_Parse_32_0_L n d.1 d.2.1 d.2.2.1 d.2.2.2.1 d.2.2.2.2.1 d.2.2.2.2.2.1 d.2.2.2.2.2.2.1 d.2.2.2.2.2.2.2.1 d.2.2.2.2.2.2.2.2.1 d.2.2.2.2.2.2.2.2.2 (ref01_Parse_32_0_x0 K)
abbrev ref01_Parse_32_0_p : List Pat := [.leaf (.str), .leaf (.undef), .leaf (.ptr 0 0), .leaf (.undef), .leaf (.int .i64), .leaf (.int .i64), .leaf (.int .i64), .leaf (.str), .leaf (.int .i64), .leaf (.bool), .leaf (.int .i64), .leaf (.int .i64), .leaf (.undef), .leaf (.undef), .leaf (.undef), .leaf (.undef), .leaf (.undef), .leaf (.undef), .leaf (.undef), .leaf (.undef), .leaf (.undef), .leaf (.undef), .leaf (.undef), .leaf (.undef), .leaf (.undef), .leaf (.undef), .leaf (.undef), .leaf (.undef), .leaf (.undef), .leaf (.undef), .leaf (.undef), .leaf (.undef), .leaf (.undef), .leaf (.undef), .leaf (.undef), .leaf (.undef), .leaf (.undef), .leaf (.undef), .leaf (.undef), .leaf (.undef), .leaf (.undef), .leaf (.undef), .leaf (.undef), .leaf (.undef), .leaf (.undef), .leaf (.undef), .leaf (.undef), .leaf (.undef), .leaf (.undef), .leaf (.undef), .leaf (.undef), .leaf (.undef), .leaf (.undef), .leaf (.undef), .leaf (.undef), .leaf (.undef), .leaf (.undef), .leaf (.undef), .leaf (.undef), .leaf (.undef), .leaf (.undef), .leaf (.undef), .leaf (.undef), .leaf (.undef), .leaf (.undef), .leaf (.undef), .leaf (.undef), .leaf (.undef), .leaf (.undef), .leaf (.undef), .leaf (.undef), .leaf (.undef), .leaf (.undef), .leaf (.undef), .leaf (.undef), .leaf (.undef), .leaf (.undef), .leaf (.undef), .leaf (.undef), .leaf (.undef), .leaf (.undef), .leaf (.undef), .leaf (.undef), .leaf (.undef), .leaf (.undef), .leaf (.undef), .leaf (.undef), .leaf (.undef), .leaf (.undef), .leaf (.undef), .leaf (.undef), .leaf (.undef), .leaf (.undef), .leaf (.undef), .leaf (.undef), .leaf (.undef), .leaf (.undef), .leaf (.undef), .leaf (.undef), .leaf (.undef), .leaf (.undef), .leaf (.undef), .leaf (.undef), .leaf (.undef), .leaf (.undef), .leaf (.undef), .leaf (.undef), .leaf (.undef), .leaf (.undef), .leaf (.undef), .leaf (.undef), .leaf (.undef), .leaf (.undef), .leaf (.undef), .leaf (.undef), .leaf (.undef), .leaf (.undef), .leaf (.undef), .leaf (.undef), .leaf (.undef), .leaf (.undef), .leaf (.undef), .leaf (.undef), .leaf (.undef), .leaf (.undef), .leaf (.undef), .leaf (.undef), .leaf (.undef), .leaf (.undef), .leaf (.undef), .leaf (.undef), .leaf (.undef), .leaf (.undef), .leaf (.undef), .leaf (.undef), .leaf (.undef), .leaf (.undef), .leaf (.undef), .leaf (.undef), .leaf (.undef), .leaf (.undef), .leaf (.undef), .leaf (.undef), .leaf (.undef), .leaf (.undef), .leaf (.undef), .leaf (.undef), .leaf (.undef), .leaf (.undef), .leaf (.undef), .leaf (.undef), .leaf (.undef), .leaf (.undef), .leaf (.undef), .leaf (.undef), .leaf (.undef), .leaf (.undef), .leaf (.undef), .leaf (.undef), .leaf (.undef), .leaf (.undef), .leaf (.undef), .leaf (.undef), .leaf (.undef), .leaf (.undef), .leaf (.undef), .leaf (.undef), .leaf (.undef), .leaf (.undef), .leaf (.undef), .leaf (.undef), .leaf (.undef), .leaf (.undef), .leaf (.undef), .leaf (.undef), .leaf (.undef), .leaf (.undef), .leaf (.undef), .leaf (.undef), .leaf (.undef), .leaf (.undef), .leaf (.undef), .leaf (.undef), .leaf (.undef), .leaf (.undef), .leaf (.undef), .leaf (.undef), .leaf (.undef), .leaf (.undef), .leaf (.undef), .leaf (.undef), .leaf (.undef), .leaf (.undef), .leaf (.undef), .leaf (.undef), .leaf (.undef), .leaf (.undef), .leaf (.undef), .leaf (.undef), .leaf (.undef), .leaf (.undef), .leaf (.undef), .leaf (.undef), .leaf (.undef), .leaf (.undef), .leaf (.undef), .leaf (.undef), .leaf (.undef), .leaf (.undef), .leaf (.undef), .leaf (.undef), .leaf (.undef), .leaf (.undef), .leaf (.undef), .leaf (.undef), .leaf (.undef), .leaf (.undef), .leaf (.undef)]
abbrev ref01_Parse_32_0_q : List HPat := [.cells [.int .i64, .int .i64]]
noncomputable def ref01_Parse_32_0_f (x : Pat.dens ref01_Parse_32_0_p) (y : HPat.dens ref01_Parse_32_0_q) : Nat := (List.length x.1 + Int.natAbs x.2.2.2.2.1 + Int.natAbs x.2.2.2.2.2.1 + Int.natAbs x.2.2.2.2.2.2.1 + List.length x.2.2.2.2.2.2.2.1 + Int.natAbs x.2.2.2.2.2.2.2.2.1 + Int.natAbs x.2.2.2.2.2.2.2.2.2.2.1 + Int.natAbs x.2.2.2.2.2.2.2.2.2.2.2.1 + Dcm.fu (⟨y.1.1, y.1.2.1⟩ : Dcm) + 64)
noncomputable def ref01_Parse_32_0_d (x : Pat.dens ref01_Parse_32_0_p) (y : HPat.dens ref01_Parse_32_0_q) : ref01_Parse_32_0_D := (x.1, x.2.2.2.2.1, x.2.2.2.2.2.1, x.2.2.2.2.2.2.1, x.2.2.2.2.2.2.2.1, x.2.2.2.2.2.2.2.2.1, x.2.2.2.2.2.2.2.2.2.1, x.2.2.2.2.2.2.2.2.2.2.1, x.2.2.2.2.2.2.2.2.2.2.2.1, (⟨y.1.1, y.1.2.1⟩ : Dcm))
noncomputable def ref01_Parse_32_0_rr {R : Type} (L : ref01_Parse_32_0_ty R) : Pat.dens ref01_Parse_32_0_p → HPat.dens ref01_Parse_32_0_q → (Ex → St → Option R) → Option R := fun x y K => L (ref01_Parse_32_0_f x y) x.1 x.2.2.2.2.1 x.2.2.2.2.2.1 x.2.2.2.2.2.2.1 x.2.2.2.2.2.2.2.1 x.2.2.2.2.2.2.2.2.1 x.2.2.2.2.2.2.2.2.2.1 x.2.2.2.2.2.2.2.2.2.2.1 x.2.2.2.2.2.2.2.2.2.2.2.1 (⟨y.1.1, y.1.2.1⟩ : Dcm) (ref01_Parse_32_0_x0 K)
noncomputable def ref01_Parse_41_0_B {R : Type} (rec' : Int → Str → Int → Dcm → Option R) (x46 : Int) (x47 : Str) (x48 : Int) (x49 : Dcm) (e0 : Int → Str → Int → Dcm → Option R) : Option R :=
  bif (decide ((x47.length : Int) > (1 : Int))) then (chk (decide ((0 : Int) < x47.length)) (bif (((x47.getD 0 0).toNat : Int) == 48) then (chk (decide ((0 : Int) ≤ (x47.length : Int)) && decide ((x47.length : Int) ≤ x47.length)) (chk (decide ((1 : Int) ≤ (x47.length : Int))) (rec' x46 ((x47.drop 1).take ((x47.length : Int).toNat - 1)) x48 x49))) else (e0 x46 x47 x48 x49))) else (e0 x46 x47 x48 x49)
noncomputable def ref01_Parse_41_0_L {R : Type} : ref01_Parse_41_0_ty R
  | 0, _, _, _, _, _ => none
  | n + 1, x0', x1', x2', x3', e0 => ref01_Parse_41_0_B (fun x0' x1' x2' x3' => ref01_Parse_41_0_L n x0' x1' x2' x3' e0) x0' x1' x2' x3' e0
noncomputable def ref01_Parse_41_0_h : Hint := { live := [2, 5, 7, 8], own := [], rows := [], cells := [], drop := [], out := [2, 3, 5, 7, 8] }
abbrev ref01_Parse_41_0_D : Type := Int × Str × Int × Dcm
noncomputable def ref01_Parse_41_0_enc : ref01_Parse_41_0_D → St := fun d => ⟨[.undef, .undef, .ptr 0 0, .undef, .undef, .int .i64 d.1, .undef, .str d.2.1, .int .i64 d.2.2.1, .undef, .undef, .undef, .undef, .undef, .undef, .undef, .undef, .undef, .undef, .undef, .undef, .undef, .undef, .undef, .undef, .undef, .undef, .undef, .undef, .undef, .undef, .undef, .undef, .undef, .undef, .undef, .undef, .undef, .undef, .undef, .undef, .undef, .undef, .undef, .undef, .undef, .undef, .undef, .undef, .undef, .undef, .undef, .undef, .undef, .undef, .undef, .undef, .undef, .undef, .undef, .undef, .undef, .undef, .undef, .undef, .undef, .undef, .undef, .undef, .undef, .undef, .undef, .undef, .undef, .undef, .undef, .undef, .undef, .undef, .undef, .undef, .undef, .undef, .undef, .undef, .undef, .undef, .undef, .undef, .undef, .undef, .undef, .undef, .undef, .undef, .undef, .undef, .undef, .undef, .undef, .undef, .undef, .undef, .undef, .undef, .undef, .undef, .undef, .undef, .undef, .undef, .undef, .undef, .undef, .undef, .undef, .undef, .undef, .undef, .undef, .undef, .undef, .undef, .undef, .undef, .undef, .undef, .undef, .undef, .undef, .undef, .undef, .undef, .undef, .undef, .undef, .undef, .undef, .undef, .undef, .undef, .undef, .undef, .undef, .undef, .undef, .undef, .undef, .undef, .undef, .undef, .undef, .undef, .undef, .undef, .undef, .undef, .undef, .undef, .undef, .undef, .undef, .undef, .undef, .undef, .undef, .undef, .undef, .undef, .undef, .undef, .undef, .undef, .undef, .undef, .undef, .undef, .undef, .undef, .undef, .undef, .undef, .undef, .undef, .undef, .undef, .undef, .undef, .undef, .undef, .undef, .undef, .undef, .undef, .undef, .undef, .undef, .undef, .undef, .undef, .undef, .undef, .undef, .undef, .undef, .undef, .undef, .undef, .undef, .undef, .undef, .undef, .undef, .undef, .undef, .undef, .undef, .undef], [.cells [.int .i64 d.2.2.2.mant, .int .i64 d.2.2.2.exp]]⟩
noncomputable def ref01_Parse_41_0_x0 {R : Type} (K : Ex → St → Option R) (q0 : Int) (q1 : Str) (q2 : Int) (q3 : Dcm) : Option R := K (.exit 2) ⟨[.undef, .undef, .ptr 0 0, .undef, .undef, .int .i64 q0, .undef, .str q1, .int .i64 q2, .undef, .undef, .undef, .undef, .undef, .undef, .undef, .undef, .undef, .undef, .undef, .undef, .undef, .undef, .undef, .undef, .undef, .undef, .undef, .undef, .undef, .undef, .undef, .undef, .undef, .undef, .undef, .undef, .undef, .undef, .undef, .undef, .undef, .undef, .undef, .undef, .undef, .undef, .undef, .undef, .undef, .undef, .undef, .undef, .undef, .undef, .undef, .undef, .undef, .undef, .undef, .undef, .undef, .undef, .undef, .undef, .undef, .undef, .undef, .undef, .undef, .undef, .undef, .undef, .undef, .undef, .undef, .undef, .undef, .undef, .undef, .undef, .undef, .undef, .undef, .undef, .undef, .undef, .undef, .undef, .undef, .undef, .undef, .undef, .undef, .undef, .undef, .undef, .undef, .undef, .undef, .undef, .undef, .undef, .undef, .undef, .undef, .undef, .undef, .undef, .undef, .undef, .undef, .undef, .undef, .undef, .undef, .undef, .undef, .undef, .undef, .undef, .undef, .undef, .undef, .undef, .undef, .undef, .undef, .undef, .undef, .undef, .undef, .undef, .undef, .undef, .undef, .undef, .undef, .undef, .undef, .undef, .undef, .undef, .undef, .undef, .undef, .undef, .undef, .undef, .undef, .undef, .undef, .undef, .undef, .undef, .undef, .undef, .undef, .undef, .undef, .undef, .undef, .undef, .undef, .undef, .undef, .undef, .undef, .undef, .undef, .undef, .undef, .undef, .undef, .undef, .undef, .undef, .undef, .undef, .undef, .undef, .undef, .undef, .undef, .undef, .undef, .undef, .undef, .undef, .undef, .undef, .undef, .undef, .undef, .undef, .undef, .undef, .undef, .undef, .undef, .undef, .undef, .undef, .undef, .undef, .undef, .undef, .undef, .undef, .undef, .undef, .undef, .undef, .undef, .undef, .undef, .undef, .undef], [.cells [.int .i64 q3.mant, .int .i64 q3.exp]]⟩
noncomputable def ref01_Parse_41_0_s {R : Type} (K : Ex → St → Option R) (rc : ref01_Parse_41_0_D → Option R) (d : ref01_Parse_41_0_D) : Option R := ref01_Parse_41_0_B (fun z0 z1 z2 z3 => rc (z0, z1, z2, z3)) d.1 d.2.1 d.2.2.1 d.2.2.2 (ref01_Parse_41_0_x0 K)
noncomputable def ref01_Parse_41_0_A {R : Type} (K : Ex → St → Option R) (n : Nat) (d : ref01_Parse_41_0_D) : Option R := ref01_Parse_41_0_L n d.1 d.2.1 d.2.2.1 d.2.2.2 (ref01_Parse_41_0_x0 K)
abbrev ref01_Parse_41_0_p : List Pat := [.leaf (.undef), .leaf (.undef), .leaf (.ptr 0 0), .leaf (.undef), .leaf (.undef), .leaf (.int .i64), .leaf (.undef), .leaf (.str), .leaf (.int .i64), .leaf (.undef), .leaf (.undef), .leaf (.undef), .leaf (.undef), .leaf (.undef), .leaf (.undef), .leaf (.undef), .leaf (.undef), .leaf (.undef), .leaf (.undef), .leaf (.undef), .leaf (.undef), .leaf (.undef), .leaf (.undef), .leaf (.undef), .leaf (.undef), .leaf (.undef), .leaf (.undef), .leaf (.undef), .leaf (.undef), .leaf (.undef), .leaf (.undef), .leaf (.undef), .leaf (.undef), .leaf (.undef), .leaf (.undef), .leaf (.undef), .leaf (.undef), .leaf (.undef), .leaf (.undef), .leaf (.undef), .leaf (.undef), .leaf (.undef), .leaf (.undef), .leaf (.undef), .leaf (.undef), .leaf (.undef), .leaf (.undef), .leaf (.undef), .leaf (.undef), .leaf (.undef), .leaf (.undef), .leaf (.undef), .leaf (.undef), .leaf (.undef), .leaf (.undef), .leaf (.undef), .leaf (.undef), .leaf (.undef), .leaf (.undef), .leaf (.undef), .leaf (.undef), .leaf (.undef), .leaf (.undef), .leaf (.undef), .leaf (.undef), .leaf (.undef), .leaf (.undef), .leaf (.undef), .leaf (.undef), .leaf (.undef), .leaf (.undef), .leaf (.undef), .leaf (.undef), .leaf (.undef), .leaf (.undef), .leaf (.undef), .leaf (.undef), .leaf (.undef), .leaf (.undef), .leaf (.undef), .leaf (.undef), .leaf (.undef), .leaf (.undef), .leaf (.undef), .leaf (.undef), .leaf (.undef), .leaf (.undef), .leaf (.undef), .leaf (.undef), .leaf (.undef), .leaf (.undef), .leaf (.undef), .leaf (.undef), .leaf (.undef), .leaf (.undef), .leaf (.undef), .leaf (.undef), .leaf (.undef), .leaf (.undef), .leaf (.undef), .leaf (.undef), .leaf (.undef), .leaf (.undef), .leaf (.undef), .leaf (.undef), .leaf (.undef), .leaf (.undef), .leaf (.undef), .leaf (.undef), .leaf (.undef), .leaf (.undef), .leaf (.undef), .leaf (.undef), .leaf (.undef), .leaf (.undef), .leaf (.undef), .leaf (.undef), .leaf (.undef), .leaf (.undef), .leaf (.undef), .leaf (.undef), .leaf (.undef), .leaf (.undef), .leaf (.undef), .leaf (.undef), .leaf (.undef), .leaf (.undef), .leaf (.undef), .leaf (.undef), .leaf (.undef), .leaf (.undef), .leaf (.undef), .leaf (.undef), .leaf (.undef), .leaf (.undef), .leaf (.undef), .leaf (.undef), .leaf (.undef), .leaf (.undef), .leaf (.undef), .leaf (.undef), .leaf (.undef), .leaf (.undef), .leaf (.undef), .leaf (.undef), .leaf (.undef), .leaf (.undef), .leaf (.undef), .leaf (.undef), .leaf (.undef), .leaf (.undef), .leaf (.undef), .leaf (.undef), .leaf (.undef), .leaf (.undef), .leaf (.undef), .leaf (.undef), .leaf (.undef), .leaf (.undef), .leaf (.undef), .leaf (.undef), .leaf (.undef), .leaf (.undef), .leaf (.undef), .leaf (.undef), .leaf (.undef), .leaf (.undef), .leaf (.undef), .leaf (.undef), .leaf (.undef), .leaf (.undef), .leaf (.undef), .leaf (.undef), .leaf (.undef), .leaf (.undef), .leaf (.undef), .leaf (.undef), .leaf (.undef), .leaf (.undef), .leaf (.undef), .leaf (.undef), .leaf (.undef), .leaf (.undef), .leaf (.undef), .leaf (.undef), .leaf (.undef), .leaf (.undef), .leaf (.undef), .leaf (.undef), .leaf (.undef), .leaf (.undef), .leaf (.undef), .leaf (.undef), .leaf (.undef), .leaf (.undef), .leaf (.undef), .leaf (.undef), .leaf (.undef), .leaf (.undef), .leaf (.undef), .leaf (.undef), .leaf (.undef), .leaf (.undef), .leaf (.undef), .leaf (.undef), .leaf (.undef), .leaf (.undef), .leaf (.undef), .leaf (.undef), .leaf (.undef), .leaf (.undef), .leaf (.undef), .leaf (.undef), .leaf (.undef), .leaf (.undef), .leaf (.undef), .leaf (.undef), .leaf (.undef)]
abbrev ref01_Parse_41_0_q : List HPat := [.cells [.int .i64, .int .i64]]
noncomputable def ref01_Parse_41_0_f (x : Pat.dens ref01_Parse_41_0_p) (y : HPat.dens ref01_Parse_41_0_q) : Nat := (Int.natAbs x.2.2.2.2.2.1 + List.length x.2.2.2.2.2.2.2.1 + Int.natAbs x.2.2.2.2.2.2.2.2.1 + Dcm.fu (⟨y.1.1, y.1.2.1⟩ : Dcm) + 64)
noncomputable def ref01_Parse_41_0_d (x : Pat.dens ref01_Parse_41_0_p) (y : HPat.dens ref01_Parse_41_0_q) : ref01_Parse_41_0_D := (x.2.2.2.2.2.1, x.2.2.2.2.2.2.2.1, x.2.2.2.2.2.2.2.2.1, (⟨y.1.1, y.1.2.1⟩ : Dcm))
noncomputable def ref01_Parse_41_0_rr {R : Type} (L : ref01_Parse_41_0_ty R) : Pat.dens ref01_Parse_41_0_p → HPat.dens ref01_Parse_41_0_q → (Ex → St → Option R) → Option R := fun x y K => L (ref01_Parse_41_0_f x y) x.2.2.2.2.2.1 x.2.2.2.2.2.2.2.1 x.2.2.2.2.2.2.2.2.1 (⟨y.1.1, y.1.2.1⟩ : Dcm) (ref01_Parse_41_0_x0 K)
noncomputable def ref01_Parse_43_0_B {R : Type} (rec' : Int → Str → Int → Dcm → Option R) (x55 : Int) (x56 : Str) (x57 : Int) (x58 : Dcm) (e0 : Int → Str → Int → Dcm → Option R) : Option R :=
  bif (decide ((x56.length : Int) > (1 : Int))) then (chk (decide ((0 : Int) ≤ (IntKind.i64.wrap ((x56.length : Int) - 1))) && decide ((IntKind.i64.wrap ((x56.length : Int) - 1)) < x56.length)) (bif (((x56.getD ((IntKind.i64.wrap ((x56.length : Int) - 1)).toNat) 0).toNat : Int) == 48) then (chk (decide ((0 : Int) ≤ (IntKind.i64.wrap ((x56.length : Int) - 1))) && decide ((IntKind.i64.wrap ((x56.length : Int) - 1)) ≤ x56.length)) (chk (decide ((0 : Int) ≤ (IntKind.i64.wrap ((x56.length : Int) - 1)))) (rec' x55 ((x56.drop 0).take ((IntKind.i64.wrap ((x56.length : Int) - 1)).toNat - 0)) (IntKind.i64.wrap (x57 + 1)) x58))) else (e0 x55 x56 x57 x58))) else (e0 x55 x56 x57 x58)
noncomputable def ref01_Parse_43_0_L {R : Type} : ref01_Parse_43_0_ty R
  | 0, _, _, _, _, _ => none
  | n + 1, x0', x1', x2', x3', e0 => ref01_Parse_43_0_B (fun x0' x1' x2' x3' => ref01_Parse_43_0_L n x0' x1' x2' x3' e0) x0' x1' x2' x3' e0
noncomputable def ref01_Parse_43_0_h : Hint := { live := [2, 5, 7, 8], own := [], rows := [], cells := [], drop := [], out := [2, 3, 5, 7, 8] }
abbrev ref01_Parse_43_0_D : Type := Int × Str × Int × Dcm
noncomputable def ref01_Parse_43_0_enc : ref01_Parse_43_0_D → St := fun d => ⟨[.undef, .undef, .ptr 0 0, .undef, .undef, .int .i64 d.1, .undef, .str d.2.1, .int .i64 d.2.2.1, .undef, .undef, .undef, .undef, .undef, .undef, .undef, .undef, .undef, .undef, .undef, .undef, .undef, .undef, .undef, .undef, .undef, .undef, .undef, .undef, .undef, .undef, .undef, .undef, .undef, .undef, .undef, .undef, .undef, .undef, .undef, .undef, .undef, .undef, .undef, .undef, .undef, .undef, .undef, .undef, .undef, .undef, .undef, .undef, .undef, .undef, .undef, .undef, .undef, .undef, .undef, .undef, .undef, .undef, .undef, .undef, .undef, .undef, .undef, .undef, .undef, .undef, .undef, .undef, .undef, .undef, .undef, .undef, .undef, .undef, .undef, .undef, .undef, .undef, .undef, .undef, .undef, .undef, .undef, .undef, .undef, .undef, .undef, .undef, .undef, .undef, .undef, .undef, .undef, .undef, .undef, .undef, .undef, .undef, .undef, .undef, .undef, .undef, .undef, .undef, .undef, .undef, .undef, .undef, .undef, .undef, .undef, .undef, .undef, .undef, .undef, .undef, .undef, .undef, .undef, .undef, .undef, .undef, .undef, .undef, .undef, .undef, .undef, .undef, .undef, .undef, .undef, .undef, .undef, .undef, .undef, .undef, .undef, .undef, .undef, .undef, .undef, .undef, .undef, .undef, .undef, .undef, .undef, .undef, .undef, .undef, .undef, .undef, .undef, .undef, .undef, .undef, .undef, .undef, .undef, .undef, .undef, .undef, .undef, .undef, .undef, .undef, .undef, .undef, .undef, .undef, .undef, .undef, .undef, .undef, .undef, .undef, .undef, .undef, .undef, .undef, .undef, .undef, .undef, .undef, .undef, .undef, .undef, .undef, .undef, .undef, .undef, .undef, .undef, .undef, .undef, .undef, .undef, .undef, .undef, .undef, .undef, .undef, .undef, .undef, .undef, .undef, .undef, .undef, .undef, .undef, .undef, .undef, .undef], [.cells [.int .i64 d.2.2.2.mant, .int .i64 d.2.2.2.exp]]⟩
noncomputable def ref01_Parse_43_0_x0 {R : Type} (K : Ex → St → Option R) (q0 : Int) (q1 : Str) (q2 : Int) (q3 : Dcm) : Option R := K (.exit 4) ⟨[.undef, .undef, .ptr 0 0, .undef, .undef, .int .i64 q0, .undef, .str q1, .int .i64 q2, .undef, .undef, .undef, .undef, .undef, .undef, .undef, .undef, .undef, .undef, .undef, .undef, .undef, .undef, .undef, .undef, .undef, .undef, .undef, .undef, .undef, .undef, .undef, .undef, .undef, .undef, .undef, .undef, .undef, .undef, .undef, .undef, .undef, .undef, .undef, .undef, .undef, .undef, .undef, .undef, .undef, .undef, .undef, .undef, .undef, .undef, .undef, .undef, .undef, .undef, .undef, .undef, .undef, .undef, .undef, .undef, .undef, .undef, .undef, .undef, .undef, .undef, .undef, .undef, .undef, .undef, .undef, .undef, .undef, .undef, .undef, .undef, .undef, .undef, .undef, .undef, .undef, .undef, .undef, .undef, .undef, .undef, .undef, .undef, .undef, .undef, .undef, .undef, .undef, .undef, .undef, .undef, .undef, .undef, .undef, .undef, .undef, .undef, .undef, .undef, .undef, .undef, .undef, .undef, .undef, .undef, .undef, .undef, .undef, .undef, .undef, .undef, .undef, .undef, .undef, .undef, .undef, .undef, .undef, .undef, .undef, .undef, .undef, .undef, .undef, .undef, .undef, .undef, .undef, .undef, .undef, .undef, .undef, .undef, .undef, .undef, .undef, .undef, .undef, .undef, .undef, .undef, .undef, .undef, .undef, .undef, .undef, .undef, .undef, .undef, .undef, .undef, .undef, .undef, .undef, .undef, .undef, .undef, .undef, .undef, .undef, .undef, .undef, .undef, .undef, .undef, .undef, .undef, .undef, .undef, .undef, .undef, .undef, .undef, .undef, .undef, .undef, .undef, .undef, .undef, .undef, .undef, .undef, .undef, .undef, .undef, .undef, .undef, .undef, .undef, .undef, .undef, .undef, .undef, .undef, .undef, .undef, .undef, .undef, .undef, .undef, .undef, .undef, .undef, .undef, .undef, .undef, .undef, .undef], [.cells [.int .i64 q3.mant, .int .i64 q3.exp]]⟩
noncomputable def ref01_Parse_43_0_s {R : Type} (K : Ex → St → Option R) (rc : ref01_Parse_43_0_D → Option R) (d : ref01_Parse_43_0_D) : Option R := ref01_Parse_43_0_B (fun z0 z1 z2 z3 => rc (z0, z1, z2, z3)) d.1 d.2.1 d.2.2.1 d.2.2.2 (ref01_Parse_43_0_x0 K)
noncomputable def ref01_Parse_43_0_A {R : Type} (K : Ex → St → Option R) (n : Nat) (d : ref01_Parse_43_0_D) : Option R := ref01_Parse_43_0_L n d.1 d.2.1 d.2.2.1 d.2.2.2 (ref01_Parse_43_0_x0 K)
abbrev ref01_Parse_43_0_p : List Pat := [.leaf (.undef), .leaf (.undef), .leaf (.ptr 0 0), .leaf (.undef), .leaf (.undef), .leaf (.int .i64), .leaf (.undef), .leaf (.str), .leaf (.int .i64), .leaf (.undef), .leaf (.undef), .leaf (.undef), .leaf (.undef), .leaf (.undef), .leaf (.undef), .leaf (.undef), .leaf (.undef), .leaf (.undef), .leaf (.undef), .leaf (.undef), .leaf (.undef), .leaf (.undef), .leaf (.undef), .leaf (.undef), .leaf (.undef), .leaf (.undef), .leaf (.undef), .leaf (.undef), .leaf (.undef), .leaf (.undef), .leaf (.undef), .leaf (.undef), .leaf (.undef), .leaf (.undef), .leaf (.undef), .leaf (.undef), .leaf (.undef), .leaf (.undef), .leaf (.undef), .leaf (.undef), .leaf (.undef), .leaf (.undef), .leaf (.undef), .leaf (.undef), .leaf (.undef), .leaf (.undef), .leaf (.undef), .leaf (.undef), .leaf (.undef), .leaf (.undef), .leaf (.undef), .leaf (.undef), .leaf (.undef), .leaf (.undef), .leaf (.undef), .leaf (.undef), .leaf (.undef), .leaf (.undef), .leaf (.undef), .leaf (.undef), .leaf (.undef), .leaf (.undef), .leaf (.undef), .leaf (.undef), .leaf (.undef), .leaf (.undef), .leaf (.undef), .leaf (.undef), .leaf (.undef), .leaf (.undef), .leaf (.undef), .leaf (.undef), .leaf (.undef), .leaf (.undef), .leaf (.undef), .leaf (.undef), .leaf (.undef), .leaf (.undef), .leaf (.undef), .leaf (.undef), .leaf (.undef), .leaf (.undef), .leaf (.undef), .leaf (.undef), .leaf (.undef), .leaf (.undef), .leaf (.undef), .leaf (.undef), .leaf (.undef), .leaf (.undef), .leaf (.undef), .leaf (.undef), .leaf (.undef), .leaf (.undef), .leaf (.undef), .leaf (.undef), .leaf (.undef), .leaf (.undef), .leaf (.undef), .leaf (.undef), .leaf (.undef), .leaf (.undef), .leaf (.undef), .leaf (.undef), .leaf (.undef), .leaf (.undef), .leaf (.undef), .leaf (.undef), .leaf (.undef), .leaf (.undef), .leaf (.undef), .leaf (.undef), .leaf (.undef), .leaf (.undef), .leaf (.undef), .leaf (.undef), .leaf (.undef), .leaf (.undef), .leaf (.undef), .leaf (.undef), .leaf (.undef), .leaf (.undef), .leaf (.undef), .leaf (.undef), .leaf (.undef), .leaf (.undef), .leaf (.undef), .leaf (.undef), .leaf (.undef), .leaf (.undef), .leaf (.undef), .leaf (.undef), .leaf (.undef), .leaf (.undef), .leaf (.undef), .leaf (.undef), .leaf (.undef), .leaf (.undef), .leaf (.undef), .leaf (.undef), .leaf (.undef), .leaf (.undef), .leaf (.undef), .leaf (.undef), .leaf (.undef), .leaf (.undef), .leaf (.undef), .leaf (.undef), .leaf (.undef), .leaf (.undef), .leaf (.undef), .leaf (.undef), .leaf (.undef), .leaf (.undef), .leaf (.undef), .leaf (.undef), .leaf (.undef), .leaf (.undef), .leaf (.undef), .leaf (.undef), .leaf (.undef), .leaf (.undef), .leaf (.undef), .leaf (.undef), .leaf (.undef), .leaf (.undef), .leaf (.undef), .leaf (.undef), .leaf (.undef), .leaf (.undef), .leaf (.undef), .leaf (.undef), .leaf (.undef), .leaf (.undef), .leaf (.undef), .leaf (.undef), .leaf (.undef), .leaf (.undef), .leaf (.undef), .leaf (.undef), .leaf (.undef), .leaf (.undef), .leaf (.undef), .leaf (.undef), .leaf (.undef), .leaf (.undef), .leaf (.undef), .leaf (.undef), .leaf (.undef), .leaf (.undef), .leaf (.undef), .leaf (.undef), .leaf (.undef), .leaf (.undef), .leaf (.undef), .leaf (.undef), .leaf (.undef), .leaf (.undef), .leaf (.undef), .leaf (.undef), .leaf (.undef), .leaf (.undef), .leaf (.undef), .leaf (.undef), .leaf (.undef), .leaf (.undef), .leaf (.undef), .leaf (.undef), .leaf (.undef), .leaf (.undef), .leaf (.undef), .leaf (.undef), .leaf (.undef), .leaf (.undef), .leaf (.undef), .leaf (.undef), .leaf (.undef), .leaf (.undef)]
abbrev ref01_Parse_43_0_q : List HPat := [.cells [.int .i64, .int .i64]]
noncomputable def ref01_Parse_43_0_f (x : Pat.dens ref01_Parse_43_0_p) (y : HPat.dens ref01_Parse_43_0_q) : Nat := (Int.natAbs x.2.2.2.2.2.1 + List.length x.2.2.2.2.2.2.2.1 + Int.natAbs x.2.2.2.2.2.2.2.2.1 + Dcm.fu (⟨y.1.1, y.1.2.1⟩ : Dcm) + 64)
noncomputable def ref01_Parse_43_0_d (x : Pat.dens ref01_Parse_43_0_p) (y : HPat.dens ref01_Parse_43_0_q) : ref01_Parse_43_0_D := (x.2.2.2.2.2.1, x.2.2.2.2.2.2.2.1, x.2.2.2.2.2.2.2.2.1, (⟨y.1.1, y.1.2.1⟩ : Dcm))
noncomputable def ref01_Parse_43_0_rr {R : Type} (L : ref01_Parse_43_0_ty R) : Pat.dens ref01_Parse_43_0_p → HPat.dens ref01_Parse_43_0_q → (Ex → St → Option R) → Option R := fun x y K => L (ref01_Parse_43_0_f x y) x.2.2.2.2.2.1 x.2.2.2.2.2.2.2.1 x.2.2.2.2.2.2.2.2.1 (⟨y.1.1, y.1.2.1⟩ : Dcm) (ref01_Parse_43_0_x0 K)
noncomputable def ref01_Parse_50_0_B {R : Type} (rec' : Int → Str → Int → Int → Int → Dcm → Option R) (x64 : Int) (x65 : Str) (x66 : Int) (x67 : Int) (x68 : Int) (x69 : Dcm) (e0 : Int → Int → Int → Dcm → Option R) : Option R :=
  bif (decide (x68 < (x65.length : Int))) then (chk (decide ((0 : Int) ≤ x68) && decide (x68 < x65.length)) (rec' x64 x65 x66 (IntKind.i64.wrap ((IntKind.i64.wrap (10 * x67)) + (IntKind.i64.wrap (IntKind.u8.wrap (((x65.getD x68.toNat 0).toNat : Int) - 48))))) (IntKind.i64.wrap (x68 + 1)) x69)) else (e0 x64 x66 x67 x69)
noncomputable def ref01_Parse_50_0_L {R : Type} : ref01_Parse_50_0_ty R
  | 0, _, _, _, _, _, _, _ => none
  | n + 1, x0', x1', x2', x3', x4', x5', e0 => ref01_Parse_50_0_B (fun x0' x1' x2' x3' x4' x5' => ref01_Parse_50_0_L n x0' x1' x2' x3' x4' x5' e0) x0' x1' x2' x3' x4' x5' e0
noncomputable def ref01_Parse_50_0_h : Hint := { live := [2, 5, 7, 8, 12, 13], own := [], rows := [], cells := [], drop := [], out := [2, 3, 5, 8, 12] }
abbrev ref01_Parse_50_0_D : Type := Int × Str × Int × Int × Int × Dcm
noncomputable def ref01_Parse_50_0_enc : ref01_Parse_50_0_D → St := fun d => ⟨[.undef, .undef, .ptr 0 0, .undef, .undef, .int .i64 d.1, .undef, .str d.2.1, .int .i64 d.2.2.1, .undef, .undef, .undef, .int .i64 d.2.2.2.1, .int .i64 d.2.2.2.2.1, .undef, .undef, .undef, .undef, .undef, .undef, .undef, .undef, .undef, .undef, .undef, .undef, .undef, .undef, .undef, .undef, .undef, .undef, .undef, .undef, .undef, .undef, .undef, .undef, .undef, .undef, .undef, .undef, .undef, .undef, .undef, .undef, .undef, .undef, .undef, .undef, .undef, .undef, .undef, .undef, .undef, .undef, .undef, .undef, .undef, .undef, .undef, .undef, .undef, .undef, .undef, .undef, .undef, .undef, .undef, .undef, .undef, .undef, .undef, .undef, .undef, .undef, .undef, .undef, .undef, .undef, .undef, .undef, .undef, .undef, .undef, .undef, .undef, .undef, .undef, .undef, .undef, .undef, .undef, .undef, .undef, .undef, .undef, .undef, .undef, .undef, .undef, .undef, .undef, .undef, .undef, .undef, .undef, .undef, .undef, .undef, .undef, .undef, .undef, .undef, .undef, .undef, .undef, .undef, .undef, .undef, .undef, .undef, .undef, .undef, .undef, .undef, .undef, .undef, .undef, .undef, .undef, .undef, .undef, .undef, .undef, .undef, .undef, .undef, .undef, .undef, .undef, .undef, .undef, .undef, .undef, .undef, .undef, .undef, .undef, .undef, .undef, .undef, .undef, .undef, .undef, .undef, .undef, .undef, .undef, .undef, .undef, .undef, .undef, .undef, .undef, .undef, .undef, .undef, .undef, .undef, .undef, .undef, .undef, .undef, .undef, .undef, .undef, .undef, .undef, .undef, .undef, .undef, .undef, .undef, .undef, .undef, .undef, .undef, .undef, .undef, .undef, .undef, .undef, .undef, .undef, .undef, .undef, .undef, .undef, .undef, .undef, .undef, .undef, .undef, .undef, .undef, .undef, .undef, .undef, .undef, .undef, .undef, .undef, .undef, .undef, .undef, .undef, .undef], [.cells [.int .i64 d.2.2.2.2.2.mant, .int .i64 d.2.2.2.2.2.exp]]⟩
noncomputable def ref01_Parse_50_0_x0 {R : Type} (K : Ex → St → Option R) (q0 : Int) (q1 : Int) (q2 : Int) (q3 : Dcm) : Option R := K (.exit 6) ⟨[.undef, .undef, .ptr 0 0, .undef, .undef, .int .i64 q0, .undef, .undef, .int .i64 q1, .undef, .undef, .undef, .int .i64 q2, .undef, .undef, .undef, .undef, .undef, .undef, .undef, .undef, .undef, .undef, .undef, .undef, .undef, .undef, .undef, .undef, .undef, .undef, .undef, .undef, .undef, .undef, .undef, .undef, .undef, .undef, .undef, .undef, .undef, .undef, .undef, .undef, .undef, .undef, .undef, .undef, .undef, .undef, .undef, .undef, .undef, .undef, .undef, .undef, .undef, .undef, .undef, .undef, .undef, .undef, .undef, .undef, .undef, .undef, .undef, .undef, .undef, .undef, .undef, .undef, .undef, .undef, .undef, .undef, .undef, .undef, .undef, .undef, .undef, .undef, .undef, .undef, .undef, .undef, .undef, .undef, .undef, .undef, .undef, .undef, .undef, .undef, .undef, .undef, .undef, .undef, .undef, .undef, .undef, .undef, .undef, .undef, .undef, .undef, .undef, .undef, .undef, .undef, .undef, .undef, .undef, .undef, .undef, .undef, .undef, .undef, .undef, .undef, .undef, .undef, .undef, .undef, .undef, .undef, .undef, .undef, .undef, .undef, .undef, .undef, .undef, .undef, .undef, .undef, .undef, .undef, .undef, .undef, .undef, .undef, .undef, .undef, .undef, .undef, .undef, .undef, .undef, .undef, .undef, .undef, .undef, .undef, .undef, .undef, .undef, .undef, .undef, .undef, .undef, .undef, .undef, .undef, .undef, .undef, .undef, .undef, .undef, .undef, .undef, .undef, .undef, .undef, .undef, .undef, .undef, .undef, .undef, .undef, .undef, .undef, .undef, .undef, .undef, .undef, .undef, .undef, .undef, .undef, .undef, .undef, .undef, .undef, .undef, .undef, .undef, .undef, .undef, .undef, .undef, .undef, .undef, .undef, .undef, .undef, .undef, .undef, .undef, .undef, .undef, .undef, .undef, .undef, .undef, .undef, .undef], [.cells [.int .i64 q3.mant, .int .i64 q3.exp]]⟩
noncomputable def ref01_Parse_50_0_s {R : Type} (K : Ex → St → Option R) (rc : ref01_Parse_50_0_D → Option R) (d : ref01_Parse_50_0_D) : Option R := ref01_Parse_50_0_B (fun z0 z1 z2 z3 z4 z5 => rc (z0, z1, z2, z3, z4, z5)) d.1 d.2.1 d.2.2.1 d.2.2.2.1 d.2.2.2.2.1 d.2.2.2.2.2 (ref01_Parse_50_0_x0 K)
noncomputable def ref01_Parse_50_0_A {R : Type} (K : Ex → St → Option R) (n : Nat) (d : ref01_Parse_50_0_D) : Option R := ref01_Parse_50_0_L n d.1 d.2.1 d.2.2.1 d.2.2.2.1 d.2.2.2.2.1 d.2.2.2.2.2 (ref01_Parse_50_0_x0 K)
abbrev ref01_Parse_50_0_p : List Pat := [.leaf (.undef), .leaf (.undef), .leaf (.ptr 0 0), .leaf (.undef), .leaf (.undef), .leaf (.int .i64), .leaf (.undef), .leaf (.str), .leaf (.int .i64), .leaf (.undef), .leaf (.undef), .leaf (.undef), .leaf (.int .i64), .leaf (.int .i64), .leaf (.undef), .leaf (.undef), .leaf (.undef), .leaf (.undef), .leaf (.undef), .leaf (.undef), .leaf (.undef), .leaf (.undef), .leaf (.undef), .leaf (.undef), .leaf (.undef), .leaf (.undef), .leaf (.undef), .leaf (.undef), .leaf (.undef), .leaf (.undef), .leaf (.undef), .leaf (.undef), .leaf (.undef), .leaf (.undef), .leaf (.undef), .leaf (.undef), .leaf (.undef), .leaf (.undef), .leaf (.undef), .leaf (.undef), .leaf (.undef), .leaf (.undef), .leaf (.undef), .leaf (.undef), .leaf (.undef), .leaf (.undef), .leaf (.undef), .leaf (.undef), .leaf (.undef), .leaf (.undef), .leaf (.undef), .leaf (.undef), .leaf (.undef), .leaf (.undef), .leaf (.undef), .leaf (.undef), .leaf (.undef), .leaf (.undef), .leaf (.undef), .leaf (.undef), .leaf (.undef), .leaf (.undef), .leaf (.undef), .leaf (.undef), .leaf (.undef), .leaf (.undef), .leaf (.undef), .leaf (.undef), .leaf (.undef), .leaf (.undef), .leaf (.undef), .leaf (.undef), .leaf (.undef), .leaf (.undef), .leaf (.undef), .leaf (.undef), .leaf (.undef), .leaf (.undef), .leaf (.undef), .leaf (.undef), .leaf (.undef), .leaf (.undef), .leaf (.undef), .leaf (.undef), .leaf (.undef), .leaf (.undef), .leaf (.undef), .leaf (.undef), .leaf (.undef), .leaf (.undef), .leaf (.undef), .leaf (.undef), .leaf (.undef), .leaf (.undef), .leaf (.undef), .leaf (.undef), .leaf (.undef), .leaf (.undef), .leaf (.undef), .leaf (.undef), .leaf (.undef), .leaf (.undef), .leaf (.undef), .leaf (.undef), .leaf (.undef), .leaf (.undef), .leaf (.undef), .leaf (.undef), .leaf (.undef), .leaf (.undef), .leaf (.undef), .leaf (.undef), .leaf (.undef), .leaf (.undef), .leaf (.undef), .leaf (.undef), .leaf (.undef), .leaf (.undef), .leaf (.undef), .leaf (.undef), .leaf (.undef), .leaf (.undef), .leaf (.undef), .leaf (.undef), .leaf (.undef), .leaf (.undef), .leaf (.undef), .leaf (.undef), .leaf (.undef), .leaf (.undef), .leaf (.undef), .leaf (.undef), .leaf (.undef), .leaf (.undef), .leaf (.undef), .leaf (.undef), .leaf (.undef), .leaf (.undef), .leaf (.undef), .leaf (.undef), .leaf (.undef), .leaf (.undef), .leaf (.undef), .leaf (.undef), .leaf (.undef), .leaf (.undef), .leaf (.undef), .leaf (.undef), .leaf (.undef), .leaf (.undef), .leaf (.undef), .leaf (.undef), .leaf (.undef), .leaf (.undef), .leaf (.undef), .leaf (.undef), .leaf (.undef), .leaf (.undef), .leaf (.undef), .leaf (.undef), .leaf (.undef), .leaf (.undef), .leaf (.undef), .leaf (.undef), .leaf (.undef), .leaf (.undef), .leaf (.undef), .leaf (.undef), .leaf (.undef), .leaf (.undef), .leaf (.undef), .leaf (.undef), .leaf (.undef), .leaf (.undef), .leaf (.undef), .leaf (.undef), .leaf (.undef), .leaf (.undef), .leaf (.undef), .leaf (.undef), .leaf (.undef), .leaf (.undef), .leaf (.undef), .leaf (.undef), .leaf (.undef), .leaf (.undef), .leaf (.undef), .leaf (.undef), .leaf (.undef), .leaf (.undef), .leaf (.undef), .leaf (.undef), .leaf (.undef), .leaf (.undef), .leaf (.undef), .leaf (.undef), .leaf (.undef), .leaf (.undef), .leaf (.undef), .leaf (.undef), .leaf (.undef), .leaf (.undef), .leaf (.undef), .leaf (.undef), .leaf (.undef), .leaf (.undef), .leaf (.undef), .leaf (.undef), .leaf (.undef), .leaf (.undef), .leaf (.undef), .leaf (.undef), .leaf (.undef), .leaf (.undef), .leaf (.undef), .leaf (.undef), .leaf (.undef), .leaf (.undef)]
abbrev ref01_Parse_50_0_q : List HPat := [.cells [.int .i64, .int .i64]]
noncomputable def ref01_Parse_50_0_f (x : Pat.dens ref01_Parse_50_0_p) (y : HPat.dens ref01_Parse_50_0_q) : Nat := (Int.natAbs x.2.2.2.2.2.1 + List.length x.2.2.2.2.2.2.2.1 + Int.natAbs x.2.2.2.2.2.2.2.2.1 + Int.natAbs x.2.2.2.2.2.2.2.2.2.2.2.2.1 + Int.natAbs x.2.2.2.2.2.2.2.2.2.2.2.2.2.1 + Dcm.fu (⟨y.1.1, y.1.2.1⟩ : Dcm) + 64)
noncomputable def ref01_Parse_50_0_d (x : Pat.dens ref01_Parse_50_0_p) (y : HPat.dens ref01_Parse_50_0_q) : ref01_Parse_50_0_D := (x.2.2.2.2.2.1, x.2.2.2.2.2.2.2.1, x.2.2.2.2.2.2.2.2.1, x.2.2.2.2.2.2.2.2.2.2.2.2.1, x.2.2.2.2.2.2.2.2.2.2.2.2.2.1, (⟨y.1.1, y.1.2.1⟩ : Dcm))
noncomputable def ref01_Parse_50_0_rr {R : Type} (L : ref01_Parse_50_0_ty R) : Pat.dens ref01_Parse_50_0_p → HPat.dens ref01_Parse_50_0_q → (Ex → St → Option R) → Option R := fun x y K => L (ref01_Parse_50_0_f x y) x.2.2.2.2.2.1 x.2.2.2.2.2.2.2.1 x.2.2.2.2.2.2.2.2.1 x.2.2.2.2.2.2.2.2.2.2.2.2.1 x.2.2.2.2.2.2.2.2.2.2.2.2.2.1 (⟨y.1.1, y.1.2.1⟩ : Dcm) (ref01_Parse_50_0_x0 K)
noncomputable def ref01_Parse_T (R : Type) (ref01_Parse_32_0_L : ref01_Parse_32_0_ty R) (ref01_Parse_41_0_L : ref01_Parse_41_0_ty R) (ref01_Parse_43_0_L : ref01_Parse_43_0_ty R) (ref01_Parse_50_0_L : ref01_Parse_50_0_ty R) : Nat → Option (Hint × LSpec R) := fun i => match i with
  | 32 => some (ref01_Parse_32_0_h, (loopBy ref01_Parse_32_0_p ref01_Parse_32_0_q (ref01_Parse_32_0_rr ref01_Parse_32_0_L) loopNo))
  | 41 => some (ref01_Parse_41_0_h, (loopBy ref01_Parse_41_0_p ref01_Parse_41_0_q (ref01_Parse_41_0_rr ref01_Parse_41_0_L) loopNo))
  | 43 => some (ref01_Parse_43_0_h, (loopBy ref01_Parse_43_0_p ref01_Parse_43_0_q (ref01_Parse_43_0_rr ref01_Parse_43_0_L) loopNo))
  | 50 => some (ref01_Parse_50_0_h, (loopBy ref01_Parse_50_0_p ref01_Parse_50_0_q (ref01_Parse_50_0_rr ref01_Parse_50_0_L) loopNo))
  | _ => none

theorem ref01_Parse_32_0_B_ok {R : Type} (ref01_Make : ref01_Make_ty R) (ref01_digits : ref01_digits_ty R) (ref01_Parse_32_0_L : ref01_Parse_32_0_ty R) (ref01_Parse_41_0_L : ref01_Parse_41_0_ty R) (ref01_Parse_43_0_L : ref01_Parse_43_0_ty R) (ref01_Parse_50_0_L : ref01_Parse_50_0_ty R) (K : Ex → St → Option R) (rc : St → Option R) (d : ref01_Parse_32_0_D) : roundOf tt (ref01_Parse_E R ref01_Make ref01_digits) (ref01_Parse_T R ref01_Parse_32_0_L ref01_Parse_41_0_L ref01_Parse_43_0_L ref01_Parse_50_0_L) 0 ((loopsOf (codeOf Tryd.f27)).getD 0 .skip) ref01_Parse_32_0_h (ref01_Parse_32_0_enc d) rc K = ref01_Parse_32_0_s K (fun d => rc (ref01_Parse_32_0_enc d)) d := by kernel_rfl
theorem ref01_Parse_32_0_A_succ {R : Type} (K : Ex → St → Option R) (n : Nat) (d : ref01_Parse_32_0_D) : ref01_Parse_32_0_A K (n + 1) d = ref01_Parse_32_0_s K (ref01_Parse_32_0_A K n) d := by kernel_rfl
theorem ref01_Parse_32_0_A_zero {R : Type} (K : Ex → St → Option R) (d : ref01_Parse_32_0_D) : ref01_Parse_32_0_A K 0 d = none := by kernel_rfl
theorem ref01_Parse_32_0_e_ok (x : Pat.dens ref01_Parse_32_0_p) (y : HPat.dens ref01_Parse_32_0_q) : (⟨Pat.encL ref01_Parse_32_0_p x, HPat.encL ref01_Parse_32_0_q y⟩ : St) = ref01_Parse_32_0_enc (ref01_Parse_32_0_d x y) := by kernel_rfl
theorem ref01_Parse_32_0_r_ok {R : Type} (x : Pat.dens ref01_Parse_32_0_p) (y : HPat.dens ref01_Parse_32_0_q) (K : Ex → St → Option R) : ref01_Parse_32_0_rr (ref01_Parse_32_0_L) x y K = ref01_Parse_32_0_A K (ref01_Parse_32_0_f x y) (ref01_Parse_32_0_d x y) := by kernel_rfl
theorem ref01_Parse_32_0_ok {R : Type} (other : LSpec R) (ho : LsOk tt (ref01_Parse_E R ref01_Make ref01_digits) (ref01_Parse_T R ref01_Parse_32_0_L ref01_Parse_41_0_L ref01_Parse_43_0_L ref01_Parse_50_0_L) 0 ((loopsOf (codeOf Tryd.f27)).getD 0 .skip) ref01_Parse_32_0_h other) : LsOk tt (ref01_Parse_E R ref01_Make ref01_digits) (ref01_Parse_T R ref01_Parse_32_0_L ref01_Parse_41_0_L ref01_Parse_43_0_L ref01_Parse_50_0_L) 0 ((loopsOf (codeOf Tryd.f27)).getD 0 .skip) ref01_Parse_32_0_h (loopBy ref01_Parse_32_0_p ref01_Parse_32_0_q (ref01_Parse_32_0_rr (ref01_Parse_32_0_L)) other) :=
  loopBy_tie (A := ref01_Parse_32_0_A) ho (loop_tie ref01_Parse_32_0_enc (ref01_Parse_32_0_s) (ref01_Parse_32_0_A) (ref01_Parse_32_0_A_zero) (ref01_Parse_32_0_B_ok ref01_Make ref01_digits ref01_Parse_32_0_L ref01_Parse_41_0_L ref01_Parse_43_0_L ref01_Parse_50_0_L) (ref01_Parse_32_0_A_succ)) ref01_Parse_32_0_f ref01_Parse_32_0_d ref01_Parse_32_0_e_ok (ref01_Parse_32_0_r_ok)

theorem ref01_Parse_41_0_B_ok {R : Type} (ref01_Make : ref01_Make_ty R) (ref01_digits : ref01_digits_ty R) (ref01_Parse_32_0_L : ref01_Parse_32_0_ty R) (ref01_Parse_41_0_L : ref01_Parse_41_0_ty R) (ref01_Parse_43_0_L : ref01_Parse_43_0_ty R) (ref01_Parse_50_0_L : ref01_Parse_50_0_ty R) (K : Ex → St → Option R) (rc : St → Option R) (d : ref01_Parse_41_0_D) : roundOf tt (ref01_Parse_E R ref01_Make ref01_digits) (ref01_Parse_T R ref01_Parse_32_0_L ref01_Parse_41_0_L ref01_Parse_43_0_L ref01_Parse_50_0_L) 0 ((loopsOf (codeOf Tryd.f27)).getD 1 .skip) ref01_Parse_41_0_h (ref01_Parse_41_0_enc d) rc K = ref01_Parse_41_0_s K (fun d => rc (ref01_Parse_41_0_enc d)) d := by kernel_rfl
theorem ref01_Parse_41_0_A_succ {R : Type} (K : Ex → St → Option R) (n : Nat) (d : ref01_Parse_41_0_D) : ref01_Parse_41_0_A K (n + 1) d = ref01_Parse_41_0_s K (ref01_Parse_41_0_A K n) d := by kernel_rfl
theorem ref01_Parse_41_0_A_zero {R : Type} (K : Ex → St → Option R) (d : ref01_Parse_41_0_D) : ref01_Parse_41_0_A K 0 d = none := by kernel_rfl
theorem ref01_Parse_41_0_e_ok (x : Pat.dens ref01_Parse_41_0_p) (y : HPat.dens ref01_Parse_41_0_q) : (⟨Pat.encL ref01_Parse_41_0_p x, HPat.encL ref01_Parse_41_0_q y⟩ : St) = ref01_Parse_41_0_enc (ref01_Parse_41_0_d x y) := by kernel_rfl
theorem ref01_Parse_41_0_r_ok {R : Type} (x : Pat.dens ref01_Parse_41_0_p) (y : HPat.dens ref01_Parse_41_0_q) (K : Ex → St → Option R) : ref01_Parse_41_0_rr (ref01_Parse_41_0_L) x y K = ref01_Parse_41_0_A K (ref01_Parse_41_0_f x y) (ref01_Parse_41_0_d x y) := by kernel_rfl
theorem ref01_Parse_41_0_ok {R : Type} (other : LSpec R) (ho : LsOk tt (ref01_Parse_E R ref01_Make ref01_digits) (ref01_Parse_T R ref01_Parse_32_0_L ref01_Parse_41_0_L ref01_Parse_43_0_L ref01_Parse_50_0_L) 0 ((loopsOf (codeOf Tryd.f27)).getD 1 .skip) ref01_Parse_41_0_h other) : LsOk tt (ref01_Parse_E R ref01_Make ref01_digits) (ref01_Parse_T R ref01_Parse_32_0_L ref01_Parse_41_0_L ref01_Parse_43_0_L ref01_Parse_50_0_L) 0 ((loopsOf (codeOf Tryd.f27)).getD 1 .skip) ref01_Parse_41_0_h (loopBy ref01_Parse_41_0_p ref01_Parse_41_0_q (ref01_Parse_41_0_rr (ref01_Parse_41_0_L)) other) :=
  loopBy_tie (A := ref01_Parse_41_0_A) ho (loop_tie ref01_Parse_41_0_enc (ref01_Parse_41_0_s) (ref01_Parse_41_0_A) (ref01_Parse_41_0_A_zero) (ref01_Parse_41_0_B_ok ref01_Make ref01_digits ref01_Parse_32_0_L ref01_Parse_41_0_L ref01_Parse_43_0_L ref01_Parse_50_0_L) (ref01_Parse_41_0_A_succ)) ref01_Parse_41_0_f ref01_Parse_41_0_d ref01_Parse_41_0_e_ok (ref01_Parse_41_0_r_ok)

theorem ref01_Parse_43_0_B_ok {R : Type} (ref01_Make : ref01_Make_ty R) (ref01_digits : ref01_digits_ty R) (ref01_Parse_32_0_L : ref01_Parse_32_0_ty R) (ref01_Parse_41_0_L : ref01_Parse_41_0_ty R) (ref01_Parse_43_0_L : ref01_Parse_43_0_ty R) (ref01_Parse_50_0_L : ref01_Parse_50_0_ty R) (K : Ex → St → Option R) (rc : St → Option R) (d : ref01_Parse_43_0_D) : roundOf tt (ref01_Parse_E R ref01_Make ref01_digits) (ref01_Parse_T R ref01_Parse_32_0_L ref01_Parse_41_0_L ref01_Parse_43_0_L ref01_Parse_50_0_L) 0 ((loopsOf (codeOf Tryd.f27)).getD 2 .skip) ref01_Parse_43_0_h (ref01_Parse_43_0_enc d) rc K = ref01_Parse_43_0_s K (fun d => rc (ref01_Parse_43_0_enc d)) d := by kernel_rfl
theorem ref01_Parse_43_0_A_succ {R : Type} (K : Ex → St → Option R) (n : Nat) (d : ref01_Parse_43_0_D) : ref01_Parse_43_0_A K (n + 1) d = ref01_Parse_43_0_s K (ref01_Parse_43_0_A K n) d := by kernel_rfl
theorem ref01_Parse_43_0_A_zero {R : Type} (K : Ex → St → Option R) (d : ref01_Parse_43_0_D) : ref01_Parse_43_0_A K 0 d = none := by kernel_rfl
theorem ref01_Parse_43_0_e_ok (x : Pat.dens ref01_Parse_43_0_p) (y : HPat.dens ref01_Parse_43_0_q) : (⟨Pat.encL ref01_Parse_43_0_p x, HPat.encL ref01_Parse_43_0_q y⟩ : St) = ref01_Parse_43_0_enc (ref01_Parse_43_0_d x y) := by kernel_rfl
theorem ref01_Parse_43_0_r_ok {R : Type} (x : Pat.dens ref01_Parse_43_0_p) (y : HPat.dens ref01_Parse_43_0_q) (K : Ex → St → Option R) : ref01_Parse_43_0_rr (ref01_Parse_43_0_L) x y K = ref01_Parse_43_0_A K (ref01_Parse_43_0_f x y) (ref01_Parse_43_0_d x y) := by kernel_rfl
theorem ref01_Parse_43_0_ok {R : Type} (other : LSpec R) (ho : LsOk tt (ref01_Parse_E R ref01_Make ref01_digits) (ref01_Parse_T R ref01_Parse_32_0_L ref01_Parse_41_0_L ref01_Parse_43_0_L ref01_Parse_50_0_L) 0 ((loopsOf (codeOf Tryd.f27)).getD 2 .skip) ref01_Parse_43_0_h other) : LsOk tt (ref01_Parse_E R ref01_Make ref01_digits) (ref01_Parse_T R ref01_Parse_32_0_L ref01_Parse_41_0_L ref01_Parse_43_0_L ref01_Parse_50_0_L) 0 ((loopsOf (codeOf Tryd.f27)).getD 2 .skip) ref01_Parse_43_0_h (loopBy ref01_Parse_43_0_p ref01_Parse_43_0_q (ref01_Parse_43_0_rr (ref01_Parse_43_0_L)) other) :=
  loopBy_tie (A := ref01_Parse_43_0_A) ho (loop_tie ref01_Parse_43_0_enc (ref01_Parse_43_0_s) (ref01_Parse_43_0_A) (ref01_Parse_43_0_A_zero) (ref01_Parse_43_0_B_ok ref01_Make ref01_digits ref01_Parse_32_0_L ref01_Parse_41_0_L ref01_Parse_43_0_L ref01_Parse_50_0_L) (ref01_Parse_43_0_A_succ)) ref01_Parse_43_0_f ref01_Parse_43_0_d ref01_Parse_43_0_e_ok (ref01_Parse_43_0_r_ok)

theorem ref01_Parse_50_0_B_ok {R : Type} (ref01_Make : ref01_Make_ty R) (ref01_digits : ref01_digits_ty R) (ref01_Parse_32_0_L : ref01_Parse_32_0_ty R) (ref01_Parse_41_0_L : ref01_Parse_41_0_ty R) (ref01_Parse_43_0_L : ref01_Parse_43_0_ty R) (ref01_Parse_50_0_L : ref01_Parse_50_0_ty R) (K : Ex → St → Option R) (rc : St → Option R) (d : ref01_Parse_50_0_D) : roundOf tt (ref01_Parse_E R ref01_Make ref01_digits) (ref01_Parse_T R ref01_Parse_32_0_L ref01_Parse_41_0_L ref01_Parse_43_0_L ref01_Parse_50_0_L) 0 ((loopsOf (codeOf Tryd.f27)).getD 3 .skip) ref01_Parse_50_0_h (ref01_Parse_50_0_enc d) rc K = ref01_Parse_50_0_s K (fun d => rc (ref01_Parse_50_0_enc d)) d := by kernel_rfl
theorem ref01_Parse_50_0_A_succ {R : Type} (K : Ex → St → Option R) (n : Nat) (d : ref01_Parse_50_0_D) : ref01_Parse_50_0_A K (n + 1) d = ref01_Parse_50_0_s K (ref01_Parse_50_0_A K n) d := by kernel_rfl
theorem ref01_Parse_50_0_A_zero {R : Type} (K : Ex → St → Option R) (d : ref01_Parse_50_0_D) : ref01_Parse_50_0_A K 0 d = none := by kernel_rfl
theorem ref01_Parse_50_0_e_ok (x : Pat.dens ref01_Parse_50_0_p) (y : HPat.dens ref01_Parse_50_0_q) : (⟨Pat.encL ref01_Parse_50_0_p x, HPat.encL ref01_Parse_50_0_q y⟩ : St) = ref01_Parse_50_0_enc (ref01_Parse_50_0_d x y) := by kernel_rfl
theorem ref01_Parse_50_0_r_ok {R : Type} (x : Pat.dens ref01_Parse_50_0_p) (y : HPat.dens ref01_Parse_50_0_q) (K : Ex → St → Option R) : ref01_Parse_50_0_rr (ref01_Parse_50_0_L) x y K = ref01_Parse_50_0_A K (ref01_Parse_50_0_f x y) (ref01_Parse_50_0_d x y) := by kernel_rfl
theorem ref01_Parse_50_0_ok {R : Type} (other : LSpec R) (ho : LsOk tt (ref01_Parse_E R ref01_Make ref01_digits) (ref01_Parse_T R ref01_Parse_32_0_L ref01_Parse_41_0_L ref01_Parse_43_0_L ref01_Parse_50_0_L) 0 ((loopsOf (codeOf Tryd.f27)).getD 3 .skip) ref01_Parse_50_0_h other) : LsOk tt (ref01_Parse_E R ref01_Make ref01_digits) (ref01_Parse_T R ref01_Parse_32_0_L ref01_Parse_41_0_L ref01_Parse_43_0_L ref01_Parse_50_0_L) 0 ((loopsOf (codeOf Tryd.f27)).getD 3 .skip) ref01_Parse_50_0_h (loopBy ref01_Parse_50_0_p ref01_Parse_50_0_q (ref01_Parse_50_0_rr (ref01_Parse_50_0_L)) other) :=
  loopBy_tie (A := ref01_Parse_50_0_A) ho (loop_tie ref01_Parse_50_0_enc (ref01_Parse_50_0_s) (ref01_Parse_50_0_A) (ref01_Parse_50_0_A_zero) (ref01_Parse_50_0_B_ok ref01_Make ref01_digits ref01_Parse_32_0_L ref01_Parse_41_0_L ref01_Parse_43_0_L ref01_Parse_50_0_L) (ref01_Parse_50_0_A_succ)) ref01_Parse_50_0_f ref01_Parse_50_0_d ref01_Parse_50_0_e_ok (ref01_Parse_50_0_r_ok)

noncomputable def ref01_Parse_X {R : Type} (ref01_Make : ref01_Make_ty R) (ref01_digits : ref01_digits_ty R) (ref01_Parse_32_0_L : ref01_Parse_32_0_ty R) (ref01_Parse_41_0_L : ref01_Parse_41_0_ty R) (ref01_Parse_43_0_L : ref01_Parse_43_0_ty R) (ref01_Parse_50_0_L : ref01_Parse_50_0_ty R) (x1 : Str) (k0 : Dcm → Bool → Option R) : Option R :=
  bif (decide ((x1.length : Int) > (400 : Int))) then (k0 (⟨0, 0⟩ : Dcm) false) else (let j79 := fun (z3 : Int) (z4 : Int) => ref01_digits x1 z3 (fun y5 => let j78 := chk (decide ((0 : Int) ≤ (IntKind.i64.wrap (z3 + y5))) && decide ((IntKind.i64.wrap (z3 + y5)) ≤ x1.length)) (chk (decide ((0 : Int) ≤ z3) && decide (z3 ≤ (IntKind.i64.wrap (z3 + y5)))) (let j77 := fun (z10 : Int) (z11 : Str) (z12 : Int) => let j76 := fun (z40 : Str) (z41 : Int) (z42 : Int) (z43 : Str) (z44 : Int) (z45 : Dcm) => bif (z41 != (z40.length : Int)) then (k0 (⟨0, 0⟩ : Dcm) false) else (ref01_Parse_41_0_L (Int.natAbs z42 + List.length z43 + Int.natAbs z44 + Dcm.fu z45 + 64) z42 z43 z44 z45 (fun y51 y52 y53 y54 => ref01_Parse_43_0_L (Int.natAbs y51 + List.length y52 + Int.natAbs y53 + Dcm.fu y54 + 64) y51 y52 y53 y54 (fun y60 y61 y62 y63 => bif (decide ((y61.length : Int) > (17 : Int))) then (k0 (⟨0, 0⟩ : Dcm) false) else (ref01_Parse_50_0_L (Int.natAbs y60 + List.length y61 + Int.natAbs y62 + Int.natAbs 0 + Int.natAbs 0 + Dcm.fu y63 + 64) y60 y61 y62 0 0 y63 (fun y70 y71 y72 y73 => ref01_Make (IntKind.i64.wrap (y70 * y72)) y71 (fun y74 y75 => k0 y74 y75)))))); let j39 := fun (z13 : Bool) => bif z13 then (let j38 := fun (z15 : Int) (z16 : Bool) => ref01_digits x1 z15 (fun y17 => bif (y17 == 0) then (k0 (⟨0, 0⟩ : Dcm) false) else (ref01_Parse_32_0_L (List.length x1 + Int.natAbs z15 + Int.natAbs z4 + Int.natAbs y17 + List.length z11 + Int.natAbs z12 + Int.natAbs 0 + Int.natAbs z15 + Dcm.fu (⟨0, 0⟩ : Dcm) + 64) x1 z15 z4 y17 z11 z12 z16 0 z15 (⟨0, 0⟩ : Dcm) (fun y28 y29 y30 y31 y32 y33 y34 y35 y36 => bif y34 then (j76 y28 (IntKind.i64.wrap (y29 + y31)) y30 y32 (IntKind.i64.wrap (y33 + (IntKind.i64.wrap (0 - y35)))) y36) else (j76 y28 (IntKind.i64.wrap (y29 + y31)) y30 y32 (IntKind.i64.wrap (y33 + y35)) y36)))); bif (decide ((IntKind.i64.wrap (z10 + 1)) < (x1.length : Int))) then (chk (decide ((0 : Int) ≤ (IntKind.i64.wrap (z10 + 1))) && decide ((IntKind.i64.wrap (z10 + 1)) < x1.length)) (bif (((x1.getD ((IntKind.i64.wrap (z10 + 1)).toNat) 0).toNat : Int) == 43) then (chk (decide ((0 : Int) ≤ (IntKind.i64.wrap (z10 + 1))) && decide ((IntKind.i64.wrap (z10 + 1)) < x1.length)) (j38 (IntKind.i64.wrap ((IntKind.i64.wrap (z10 + 1)) + 1)) (((x1.getD ((IntKind.i64.wrap (z10 + 1)).toNat) 0).toNat : Int) == 45))) else (chk (decide ((0 : Int) ≤ (IntKind.i64.wrap (z10 + 1))) && decide ((IntKind.i64.wrap (z10 + 1)) < x1.length)) (bif (((x1.getD ((IntKind.i64.wrap (z10 + 1)).toNat) 0).toNat : Int) == 45) then (chk (decide ((0 : Int) ≤ (IntKind.i64.wrap (z10 + 1))) && decide ((IntKind.i64.wrap (z10 + 1)) < x1.length)) (j38 (IntKind.i64.wrap ((IntKind.i64.wrap (z10 + 1)) + 1)) (((x1.getD ((IntKind.i64.wrap (z10 + 1)).toNat) 0).toNat : Int) == 45))) else (j38 (IntKind.i64.wrap (z10 + 1)) false))))) else (j38 (IntKind.i64.wrap (z10 + 1)) false)) else (j76 x1 z10 z4 z11 z12 (⟨0, 0⟩ : Dcm)); bif (decide (z10 < (x1.length : Int))) then (chk (decide ((0 : Int) ≤ z10) && decide (z10 < x1.length)) (bif (((x1.getD z10.toNat 0).toNat : Int) == 101) then (j39 true) else (chk (decide ((0 : Int) ≤ z10) && decide (z10 < x1.length)) (j39 (((x1.getD z10.toNat 0).toNat : Int) == 69))))) else (j39 false); let j9 := fun (z7 : Bool) => bif z7 then (ref01_digits x1 (IntKind.i64.wrap ((IntKind.i64.wrap (z3 + y5)) + 1)) (fun y8 => bif (y8 == 0) then (k0 (⟨0, 0⟩ : Dcm) false) else (chk (decide ((0 : Int) ≤ (IntKind.i64.wrap ((IntKind.i64.wrap ((IntKind.i64.wrap (z3 + y5)) + 1)) + y8))) && decide ((IntKind.i64.wrap ((IntKind.i64.wrap ((IntKind.i64.wrap (z3 + y5)) + 1)) + y8)) ≤ x1.length)) (chk (decide ((0 : Int) ≤ (IntKind.i64.wrap ((IntKind.i64.wrap (z3 + y5)) + 1))) && decide ((IntKind.i64.wrap ((IntKind.i64.wrap (z3 + y5)) + 1)) ≤ (IntKind.i64.wrap ((IntKind.i64.wrap ((IntKind.i64.wrap (z3 + y5)) + 1)) + y8)))) (chk (decide (((x1.drop z3.toNat).take ((IntKind.i64.wrap (z3 + y5)).toNat - z3.toNat)).length + ((x1.drop (IntKind.i64.wrap ((IntKind.i64.wrap (z3 + y5)) + 1)).toNat).take ((IntKind.i64.wrap ((IntKind.i64.wrap ((IntKind.i64.wrap (z3 + y5)) + 1)) + y8)).toNat - (IntKind.i64.wrap ((IntKind.i64.wrap (z3 + y5)) + 1)).toNat)).length ≤ 9223372036854775807)) (j77 (IntKind.i64.wrap ((IntKind.i64.wrap ((IntKind.i64.wrap (z3 + y5)) + 1)) + y8)) (((x1.drop z3.toNat).take ((IntKind.i64.wrap (z3 + y5)).toNat - z3.toNat)) ++ ((x1.drop (IntKind.i64.wrap ((IntKind.i64.wrap (z3 + y5)) + 1)).toNat).take ((IntKind.i64.wrap ((IntKind.i64.wrap ((IntKind.i64.wrap (z3 + y5)) + 1)) + y8)).toNat - (IntKind.i64.wrap ((IntKind.i64.wrap (z3 + y5)) + 1)).toNat))) (IntKind.i64.wrap (0 - y8)))))))) else (j77 (IntKind.i64.wrap (z3 + y5)) ((x1.drop z3.toNat).take ((IntKind.i64.wrap (z3 + y5)).toNat - z3.toNat)) 0); bif (decide ((IntKind.i64.wrap (z3 + y5)) < (x1.length : Int))) then (chk (decide ((0 : Int) ≤ (IntKind.i64.wrap (z3 + y5))) && decide ((IntKind.i64.wrap (z3 + y5)) < x1.length)) (j9 (((x1.getD ((IntKind.i64.wrap (z3 + y5)).toNat) 0).toNat : Int) == 46))) else (j9 false))); bif (y5 == 0) then (k0 (⟨0, 0⟩ : Dcm) false) else (bif (decide (y5 > (1 : Int))) then (chk (decide ((0 : Int) ≤ z3) && decide (z3 < x1.length)) (bif (((x1.getD z3.toNat 0).toNat : Int) == 48) then (k0 (⟨0, 0⟩ : Dcm) false) else (j78))) else (j78))); bif (decide ((0 : Int) < (x1.length : Int))) then (chk (decide ((0 : Int) < x1.length)) (bif (((x1.getD 0 0).toNat : Int) == 45) then (j79 1 (-1)) else (j79 0 1))) else (j79 0 1))
noncomputable def ref01_Parse {R : Type} : ref01_Parse_ty R := fun x1 k0 => ref01_Parse_X ref01_Make ref01_digits ref01_Parse_32_0_L ref01_Parse_41_0_L ref01_Parse_43_0_L ref01_Parse_50_0_L x1 k0
theorem ref01_Parse_ok {R : Type} (ref01_Make : ref01_Make_ty R) (ref01_digits : ref01_digits_ty R) (ref01_Parse_32_0_L : ref01_Parse_32_0_ty R) (ref01_Parse_41_0_L : ref01_Parse_41_0_ty R) (ref01_Parse_43_0_L : ref01_Parse_43_0_ty R) (ref01_Parse_50_0_L : ref01_Parse_50_0_ty R) (x1 : Str) (k : V → Heap → Option R) : funK tt (ref01_Parse_E R ref01_Make ref01_digits) (ref01_Parse_T R ref01_Parse_32_0_L ref01_Parse_41_0_L ref01_Parse_43_0_L ref01_Parse_50_0_L) false Tryd.f27 (codeOf Tryd.f27) [.str x1] [] k =
    ref01_Parse_X ref01_Make ref01_digits ref01_Parse_32_0_L ref01_Parse_41_0_L ref01_Parse_43_0_L ref01_Parse_50_0_L x1 (fun q0 q1 => k (.tuple [.agg [.int .i64 q0.mant, .int .i64 q0.exp], .bool q1]) []) := by kernel_rfl
theorem ref01_Parse_loops (R : Type) : ∀ a ∈ loopsOf (codeOf Tryd.f27), LoopOk tt (ref01_Parse_E R ref01_Make ref01_digits) (ref01_Parse_T R ref01_Parse_32_0_L ref01_Parse_41_0_L ref01_Parse_43_0_L ref01_Parse_50_0_L) 0 a := by
  refine loops_ok 4 (by kernel_rfl) fun i hi => ?_
  match i, hi with
  | 0, _ => exact loopOk_some (by kernel_rfl) (ref01_Parse_32_0_ok _ loopNo_ok)
  | 1, _ => exact loopOk_some (by kernel_rfl) (ref01_Parse_41_0_ok _ loopNo_ok)
  | 2, _ => exact loopOk_some (by kernel_rfl) (ref01_Parse_43_0_ok _ loopNo_ok)
  | 3, _ => exact loopOk_some (by kernel_rfl) (ref01_Parse_50_0_ok _ loopNo_ok)
  | n + 4, hi => omega
theorem ref01_Parse_S_ok (R : Type) (other : Yard.Spec R) (ho : Yard.Spec.Ok Tryd.prog 27 other) : Yard.Spec.Ok Tryd.prog 27 (specBy ref01_Parse_p ref01_Parse_q (ref01_Parse_rr ref01_Parse) other) :=
  specBy_ok ho (funK_sound TT mixed (ref01_Parse_EOk R) (keep := false) rfl rfl rfl rfl 0 (ref01_Parse_loops R)) fun (x : Pat.dens ref01_Parse_p) (y : HPat.dens ref01_Parse_q) k => ref01_Parse_ok ref01_Make ref01_digits ref01_Parse_32_0_L ref01_Parse_41_0_L ref01_Parse_43_0_L ref01_Parse_50_0_L x.1 k

end Go.Proofs.YtmlkkgfenfdndaaDoor

/-
  Functions of the program as pure Lean functions, and the ties; printed by wip/tools/emit.py.
-/
set_option maxRecDepth 100000
set_option linter.unusedVariables false
namespace Go.Proofs.YtmlkkgfenfdndaaDoor
open Go Go.Yard

/-! ### humpyard/humpyardref03.token -/
abbrev ref03_token_ty (R : Type) : Type := Str → Int → (Token → Int → Option R) → Option R
abbrev ref03_token_p : List Pat := [.leaf (.str), .leaf (.int .i64)]
abbrev ref03_token_q : List HPat := []
noncomputable def ref03_token_rr {R : Type} (fn : ref03_token_ty R) : Pat.dens ref03_token_p → HPat.dens ref03_token_q → (V → Heap → Option R) → Option R := fun x y k => fn x.1 x.2.1 (fun q0 q1 => k (.tuple [.agg [.int .i64 q0.kind, .str q0.text, .int .i64 q0.num.mant, .int .i64 q0.num.exp, .int .i64 q0.at_], .int .i64 q1]) [])
noncomputable def ref03_token_E (R : Type) (ref02_Unquote : ref02_Unquote_ty R) (ref01_Parse : ref01_Parse_ty R) (ref03_word : ref03_word_ty R) : Env R := fun i => match i with
  | 25 => some (true, (specBy ref02_Unquote_p ref02_Unquote_q (ref02_Unquote_rr ref02_Unquote) specNo))
  | 27 => some (true, (specBy ref01_Parse_p ref01_Parse_q (ref01_Parse_rr ref01_Parse) specNo))
  | 26 => some (true, (specBy ref03_word_p ref03_word_q (ref03_word_rr ref03_word) specNo))
  | _ => none
theorem ref03_token_EOk (R : Type) : EOk Tryd.prog (ref03_token_E R ref02_Unquote ref01_Parse ref03_word) := by
  intro i b sp h
  unfold ref03_token_E at h
  split at h
  · cases h; exact ⟨(ref02_Unquote_S_ok R _ (specNo_ok _)), fun h => nomatch h⟩
  · cases h; exact ⟨(ref01_Parse_S_ok R _ (specNo_ok _)), fun h => nomatch h⟩
  · cases h; exact ⟨(ref03_word_S_ok R _ (specNo_ok _)), fun h => nomatch h⟩
  · cases h

noncomputable def ref03_token_T (R : Type) : Nat → Option (Hint × LSpec R) := fun i => match i with
  | _ => none

noncomputable def ref03_token_X {R : Type} (ref02_Unquote : ref02_Unquote_ty R) (ref01_Parse : ref01_Parse_ty R) (ref03_word : ref03_word_ty R) (x1 : Str) (x2 : Int) (k0 : Token → Int → Option R) : Option R :=
  chk (decide ((0 : Int) ≤ x2) && decide (x2 < x1.length)) (let j16 := fun (z3 : Bool) => bif z3 then (chk (decide ((0 : Int) ≤ (IntKind.i64.wrap (x2 + 1))) && decide ((IntKind.i64.wrap (x2 + 1)) ≤ x1.length)) (chk (decide ((0 : Int) ≤ x2) && decide (x2 ≤ (IntKind.i64.wrap (x2 + 1)))) (k0 (⟨1, ((x1.drop x2.toNat).take ((IntKind.i64.wrap (x2 + 1)).toNat - x2.toNat)), ⟨0, 0⟩, x2⟩ : Token) 1))) else (bif (((x1.getD x2.toNat 0).toNat : Int) == 34) then (chk (decide ((0 : Int) ≤ (x1.length : Int)) && decide ((x1.length : Int) ≤ x1.length)) (chk (decide ((0 : Int) ≤ x2) && decide (x2 ≤ (x1.length : Int))) (ref02_Unquote ((x1.drop x2.toNat).take ((x1.length : Int).toNat - x2.toNat)) (fun y4 y5 y6 => bif (!y6) then (k0 (⟨0, ([] : Str), ⟨0, 0⟩, 0⟩ : Token) 0) else (k0 (⟨2, y4, ⟨0, 0⟩, x2⟩ : Token) y5))))) else (let j15 := fun (z7 : Bool) => bif z7 then (ref03_word x1 x2 true (fun y8 => ref01_Parse y8 (fun y9 y10 => bif (!y10) then (k0 (⟨0, ([] : Str), ⟨0, 0⟩, 0⟩ : Token) 0) else (k0 (⟨3, y8, ⟨y9.mant, y9.exp⟩, x2⟩ : Token) (y8.length : Int))))) else (let j14 := fun (z11 : Bool) => bif z11 then (ref03_word x1 x2 false (fun y12 => bif (y12 == ([116, 114, 117, 101] : Str)) then (k0 (⟨4, y12, ⟨0, 0⟩, x2⟩ : Token) (y12.length : Int)) else (bif (y12 == ([102, 97, 108, 115, 101] : Str)) then (k0 (⟨4, y12, ⟨0, 0⟩, x2⟩ : Token) (y12.length : Int)) else (bif (y12 == ([110, 117, 108, 108] : Str)) then (k0 (⟨4, y12, ⟨0, 0⟩, x2⟩ : Token) (y12.length : Int)) else (k0 (⟨0, ([] : Str), ⟨0, 0⟩, 0⟩ : Token) 0))))) else (k0 (⟨0, ([] : Str), ⟨0, 0⟩, 0⟩ : Token) 0); bif (decide (((x1.getD x2.toNat 0).toNat : Int) ≥ (97 : Int))) then (j14 (decide (((x1.getD x2.toNat 0).toNat : Int) ≤ (122 : Int)))) else (j14 false)); bif (decide (((x1.getD x2.toNat 0).toNat : Int) ≥ (48 : Int))) then (bif (decide (((x1.getD x2.toNat 0).toNat : Int) ≤ (57 : Int))) then (j15 true) else (j15 (((x1.getD x2.toNat 0).toNat : Int) == 45))) else (j15 (((x1.getD x2.toNat 0).toNat : Int) == 45)))); bif (((x1.getD x2.toNat 0).toNat : Int) == 123) then (j16 true) else (bif (((x1.getD x2.toNat 0).toNat : Int) == 125) then (j16 true) else (bif (((x1.getD x2.toNat 0).toNat : Int) == 91) then (j16 true) else (bif (((x1.getD x2.toNat 0).toNat : Int) == 93) then (j16 true) else (bif (((x1.getD x2.toNat 0).toNat : Int) == 44) then (j16 true) else (j16 (((x1.getD x2.toNat 0).toNat : Int) == 58)))))))
noncomputable def ref03_token {R : Type} : ref03_token_ty R := fun x1 x2 k0 => ref03_token_X ref02_Unquote ref01_Parse ref03_word x1 x2 k0
theorem ref03_token_ok {R : Type} (ref02_Unquote : ref02_Unquote_ty R) (ref01_Parse : ref01_Parse_ty R) (ref03_word : ref03_word_ty R) (x1 : Str) (x2 : Int) (k : V → Heap → Option R) : funK tt (ref03_token_E R ref02_Unquote ref01_Parse ref03_word) (ref03_token_T R) false Tryd.f13 (codeOf Tryd.f13) [.str x1, .int .i64 x2] [] k =
    ref03_token_X ref02_Unquote ref01_Parse ref03_word x1 x2 (fun q0 q1 => k (.tuple [.agg [.int .i64 q0.kind, .str q0.text, .int .i64 q0.num.mant, .int .i64 q0.num.exp, .int .i64 q0.at_], .int .i64 q1]) []) := by kernel_rfl
theorem ref03_token_loops (R : Type) : ∀ a ∈ loopsOf (codeOf Tryd.f13), LoopOk tt (ref03_token_E R ref02_Unquote ref01_Parse ref03_word) (ref03_token_T R) 0 a := by
  refine loops_ok 0 (by kernel_rfl) fun i hi => ?_
  omega
theorem ref03_token_S_ok (R : Type) (other : Yard.Spec R) (ho : Yard.Spec.Ok Tryd.prog 13 other) : Yard.Spec.Ok Tryd.prog 13 (specBy ref03_token_p ref03_token_q (ref03_token_rr ref03_token) other) :=
  specBy_ok ho (funK_sound TT mixed (ref03_token_EOk R) (keep := false) rfl rfl rfl rfl 0 (ref03_token_loops R)) fun (x : Pat.dens ref03_token_p) (y : HPat.dens ref03_token_q) k => ref03_token_ok ref02_Unquote ref01_Parse ref03_word x.1 x.2.1 k

/-! ### humpyard/humpyardref03.Scan -/
abbrev ref03_Scan_ty (R : Type) : Type := Str → ((List Token) → Int → Int → Option R) → Option R
abbrev ref03_Scan_p : List Pat := [.leaf (.str)]
abbrev ref03_Scan_q : List HPat := []
noncomputable def ref03_Scan_rr {R : Type} (fn : ref03_Scan_ty R) : Pat.dens ref03_Scan_p → HPat.dens ref03_Scan_q → (V → Heap → Option R) → Option R := fun x y k => fn x.1 (fun q0 q1 q2 => k (.tuple [.sl .token q0 .no, .int .i64 q1, .int .i64 q2]) [])
abbrev ref03_Scan_5_0_ty (R : Type) : Type := Nat → Str → (List Token) → Int → ((List Token) → Int → Option R) → (Int → Int → (List Token) → Int → Option R) → Option R
noncomputable def ref03_Scan_E (R : Type) (ref03_token : ref03_token_ty R) : Env R := fun i => match i with
  | 13 => some (true, (specBy ref03_token_p ref03_token_q (ref03_token_rr ref03_token) specNo))
  | _ => none
theorem ref03_Scan_EOk (R : Type) : EOk Tryd.prog (ref03_Scan_E R ref03_token) := by
  intro i b sp h
  unfold ref03_Scan_E at h
  split at h
  · cases h; exact ⟨(ref03_token_S_ok R _ (specNo_ok _)), fun h => nomatch h⟩
  · cases h

noncomputable def ref03_Scan_5_0_B {R : Type} (ref03_token : ref03_token_ty R) (rec' : Str → (List Token) → Int → Option R) (x2 : Str) (x3 : List Token) (x4 : Int) (e0 : (List Token) → Int → Option R) (e1 : Int → Int → (List Token) → Int → Option R) : Option R :=
  bif (decide (x4 < (x2.length : Int))) then (chk (decide ((0 : Int) ≤ x4) && decide (x4 < x2.length)) (bif (((x2.getD x4.toNat 0).toNat : Int) == 32) then (rec' x2 x3 (IntKind.i64.wrap (x4 + 1))) else (chk (decide ((0 : Int) ≤ x4) && decide (x4 < x2.length)) (bif (((x2.getD x4.toNat 0).toNat : Int) == 9) then (rec' x2 x3 (IntKind.i64.wrap (x4 + 1))) else (chk (decide ((0 : Int) ≤ x4) && decide (x4 < x2.length)) (bif (((x2.getD x4.toNat 0).toNat : Int) == 10) then (rec' x2 x3 (IntKind.i64.wrap (x4 + 1))) else (chk (decide ((0 : Int) ≤ x4) && decide (x4 < x2.length)) (bif (((x2.getD x4.toNat 0).toNat : Int) == 13) then (rec' x2 x3 (IntKind.i64.wrap (x4 + 1))) else (ref03_token x2 x4 (fun y6 y7 => bif (y7 == 0) then (e1 30 x4 x3 x4) else (chk (decide ((x3.length + 1) * 48 ≤ 140737488355328)) (rec' x2 (x3 ++ ([y6] : List Token)) (IntKind.i64.wrap (x4 + y7)))))))))))))) else (e0 x3 x4)
noncomputable def ref03_Scan_5_0_L {R : Type} : ref03_Scan_5_0_ty R
  | 0, _, _, _, _, _ => none
  | n + 1, x0', x1', x2', e0, e1 => ref03_Scan_5_0_B ref03_token (fun x0' x1' x2' => ref03_Scan_5_0_L n x0' x1' x2' e0 e1) x0' x1' x2' e0 e1
noncomputable def ref03_Scan_5_0_h : Hint := { live := [0, 5, 6], own := [(5, .token)], rows := [], cells := [], drop := [], out := [2, 3, 4, 5, 6] }
abbrev ref03_Scan_5_0_D : Type := Str × (List Token) × Int
noncomputable def ref03_Scan_5_0_enc : ref03_Scan_5_0_D → St := fun d => ⟨[.str d.1, .undef, .undef, .undef, .undef, .sl .token d.2.1 (.own 0), .int .i64 d.2.2, .undef, .undef, .undef, .undef, .undef, .undef, .undef, .undef, .undef, .undef, .undef, .undef, .undef, .undef, .undef, .undef, .undef, .undef, .undef, .undef, .undef, .undef, .undef, .undef, .undef, .undef, .undef, .undef, .undef, .undef, .undef, .undef, .undef, .undef, .undef, .undef, .undef, .undef, .undef, .undef, .undef, .undef, .undef, .undef, .undef, .undef, .undef, .undef, .undef, .undef, .undef, .undef, .undef, .undef], [.tok]⟩
noncomputable def ref03_Scan_5_0_x0 {R : Type} (K : Ex → St → Option R) (q0 : List Token) (q1 : Int) : Option R := K (.exit 0) ⟨[.undef, .undef, .undef, .undef, .undef, .sl .token q0 (.own 0), .int .i64 q1, .undef, .undef, .undef, .undef, .undef, .undef, .undef, .undef, .undef, .undef, .undef, .undef, .undef, .undef, .undef, .undef, .undef, .undef, .undef, .undef, .undef, .undef, .undef, .undef, .undef, .undef, .undef, .undef, .undef, .undef, .undef, .undef, .undef, .undef, .undef, .undef, .undef, .undef, .undef, .undef, .undef, .undef, .undef, .undef, .undef, .undef, .undef, .undef, .undef, .undef, .undef, .undef, .undef, .undef], [.tok]⟩
noncomputable def ref03_Scan_5_0_x1 {R : Type} (K : Ex → St → Option R) (q0 : Int) (q1 : Int) (q2 : List Token) (q3 : Int) : Option R := K (.ret) ⟨[.undef, .undef, .nilsl, .int .i64 q0, .int .i64 q1, .sl .token q2 (.own 0), .int .i64 q3, .undef, .undef, .undef, .undef, .undef, .undef, .undef, .undef, .undef, .undef, .undef, .undef, .undef, .undef, .undef, .undef, .undef, .undef, .undef, .undef, .undef, .undef, .undef, .undef, .undef, .undef, .undef, .undef, .undef, .undef, .undef, .undef, .undef, .undef, .undef, .undef, .undef, .undef, .undef, .undef, .undef, .undef, .undef, .undef, .undef, .undef, .undef, .undef, .undef, .undef, .undef, .undef, .undef, .undef], [.tok]⟩
noncomputable def ref03_Scan_5_0_s {R : Type} (ref03_token : ref03_token_ty R) (K : Ex → St → Option R) (rc : ref03_Scan_5_0_D → Option R) (d : ref03_Scan_5_0_D) : Option R := ref03_Scan_5_0_B ref03_token (fun z0 z1 z2 => rc (z0, z1, z2)) d.1 d.2.1 d.2.2 (ref03_Scan_5_0_x0 K) (ref03_Scan_5_0_x1 K)
noncomputable def ref03_Scan_5_0_A {R : Type} (K : Ex → St → Option R) (n : Nat) (d : ref03_Scan_5_0_D) : Option R := ref03_Scan_5_0_L n d.1 d.2.1 d.2.2 (ref03_Scan_5_0_x0 K) (ref03_Scan_5_0_x1 K)
abbrev ref03_Scan_5_0_p : List Pat := [.leaf (.str), .leaf (.undef), .leaf (.undef), .leaf (.undef), .leaf (.undef), .leaf (.slo .token 0), .leaf (.int .i64), .leaf (.undef), .leaf (.undef), .leaf (.undef), .leaf (.undef), .leaf (.undef), .leaf (.undef), .leaf (.undef), .leaf (.undef), .leaf (.undef), .leaf (.undef), .leaf (.undef), .leaf (.undef), .leaf (.undef), .leaf (.undef), .leaf (.undef), .leaf (.undef), .leaf (.undef), .leaf (.undef), .leaf (.undef), .leaf (.undef), .leaf (.undef), .leaf (.undef), .leaf (.undef), .leaf (.undef), .leaf (.undef), .leaf (.undef), .leaf (.undef), .leaf (.undef), .leaf (.undef), .leaf (.undef), .leaf (.undef), .leaf (.undef), .leaf (.undef), .leaf (.undef), .leaf (.undef), .leaf (.undef), .leaf (.undef), .leaf (.undef), .leaf (.undef), .leaf (.undef), .leaf (.undef), .leaf (.undef), .leaf (.undef), .leaf (.undef), .leaf (.undef), .leaf (.undef), .leaf (.undef), .leaf (.undef), .leaf (.undef), .leaf (.undef), .leaf (.undef), .leaf (.undef), .leaf (.undef), .leaf (.undef)]
abbrev ref03_Scan_5_0_q : List HPat := [.tok]
noncomputable def ref03_Scan_5_0_f (x : Pat.dens ref03_Scan_5_0_p) (y : HPat.dens ref03_Scan_5_0_q) : Nat := (List.length x.1 + List.length x.2.2.2.2.2.1 + Int.natAbs x.2.2.2.2.2.2.1 + 64)
noncomputable def ref03_Scan_5_0_d (x : Pat.dens ref03_Scan_5_0_p) (y : HPat.dens ref03_Scan_5_0_q) : ref03_Scan_5_0_D := (x.1, x.2.2.2.2.2.1, x.2.2.2.2.2.2.1)
noncomputable def ref03_Scan_5_0_rr {R : Type} (L : ref03_Scan_5_0_ty R) : Pat.dens ref03_Scan_5_0_p → HPat.dens ref03_Scan_5_0_q → (Ex → St → Option R) → Option R := fun x y K => L (ref03_Scan_5_0_f x y) x.1 x.2.2.2.2.2.1 x.2.2.2.2.2.2.1 (ref03_Scan_5_0_x0 K) (ref03_Scan_5_0_x1 K)
noncomputable def ref03_Scan_T (R : Type) (ref03_Scan_5_0_L : ref03_Scan_5_0_ty R) : Nat → Option (Hint × LSpec R) := fun i => match i with
  | 5 => some (ref03_Scan_5_0_h, (loopBy ref03_Scan_5_0_p ref03_Scan_5_0_q (ref03_Scan_5_0_rr ref03_Scan_5_0_L) loopNo))
  | _ => none

theorem ref03_Scan_5_0_B_ok {R : Type} (ref03_token : ref03_token_ty R) (ref03_Scan_5_0_L : ref03_Scan_5_0_ty R) (K : Ex → St → Option R) (rc : St → Option R) (d : ref03_Scan_5_0_D) : roundOf tt (ref03_Scan_E R ref03_token) (ref03_Scan_T R ref03_Scan_5_0_L) 0 ((loopsOf (codeOf Tryd.f7)).getD 0 .skip) ref03_Scan_5_0_h (ref03_Scan_5_0_enc d) rc K = ref03_Scan_5_0_s ref03_token K (fun d => rc (ref03_Scan_5_0_enc d)) d := by kernel_rfl
theorem ref03_Scan_5_0_A_succ {R : Type} (K : Ex → St → Option R) (n : Nat) (d : ref03_Scan_5_0_D) : ref03_Scan_5_0_A K (n + 1) d = ref03_Scan_5_0_s ref03_token K (ref03_Scan_5_0_A K n) d := by kernel_rfl
theorem ref03_Scan_5_0_A_zero {R : Type} (K : Ex → St → Option R) (d : ref03_Scan_5_0_D) : ref03_Scan_5_0_A K 0 d = none := by kernel_rfl
theorem ref03_Scan_5_0_e_ok (x : Pat.dens ref03_Scan_5_0_p) (y : HPat.dens ref03_Scan_5_0_q) : (⟨Pat.encL ref03_Scan_5_0_p x, HPat.encL ref03_Scan_5_0_q y⟩ : St) = ref03_Scan_5_0_enc (ref03_Scan_5_0_d x y) := by kernel_rfl
theorem ref03_Scan_5_0_r_ok {R : Type} (x : Pat.dens ref03_Scan_5_0_p) (y : HPat.dens ref03_Scan_5_0_q) (K : Ex → St → Option R) : ref03_Scan_5_0_rr (ref03_Scan_5_0_L) x y K = ref03_Scan_5_0_A K (ref03_Scan_5_0_f x y) (ref03_Scan_5_0_d x y) := by kernel_rfl
theorem ref03_Scan_5_0_ok {R : Type} (other : LSpec R) (ho : LsOk tt (ref03_Scan_E R ref03_token) (ref03_Scan_T R ref03_Scan_5_0_L) 0 ((loopsOf (codeOf Tryd.f7)).getD 0 .skip) ref03_Scan_5_0_h other) : LsOk tt (ref03_Scan_E R ref03_token) (ref03_Scan_T R ref03_Scan_5_0_L) 0 ((loopsOf (codeOf Tryd.f7)).getD 0 .skip) ref03_Scan_5_0_h (loopBy ref03_Scan_5_0_p ref03_Scan_5_0_q (ref03_Scan_5_0_rr (ref03_Scan_5_0_L)) other) :=
  loopBy_tie (A := ref03_Scan_5_0_A) ho (loop_tie ref03_Scan_5_0_enc (ref03_Scan_5_0_s ref03_token) (ref03_Scan_5_0_A) (ref03_Scan_5_0_A_zero) (ref03_Scan_5_0_B_ok ref03_token ref03_Scan_5_0_L) (ref03_Scan_5_0_A_succ)) ref03_Scan_5_0_f ref03_Scan_5_0_d ref03_Scan_5_0_e_ok (ref03_Scan_5_0_r_ok)

noncomputable def ref03_Scan_X {R : Type} (ref03_Scan_5_0_L : ref03_Scan_5_0_ty R) (x1 : Str) (k0 : (List Token) → Int → Int → Option R) : Option R :=
  bif (decide ((x1.length : Int) > (20000 : Int))) then (k0 ([] : List Token) 30 0) else (ref03_Scan_5_0_L (List.length x1 + List.length ([] : List Token) + Int.natAbs 0 + 64) x1 ([] : List Token) 0 (fun y8 y9 => chk (decide ((y8.length + 1) * 48 ≤ 140737488355328)) (k0 (y8 ++ ([(⟨5, ([] : Str), ⟨0, 0⟩, y9⟩ : Token)] : List Token)) 0 0)) (fun y10 y11 y12 y13 => k0 ([] : List Token) y10 y11))
noncomputable def ref03_Scan {R : Type} : ref03_Scan_ty R := fun x1 k0 => ref03_Scan_X ref03_Scan_5_0_L x1 k0
theorem ref03_Scan_ok {R : Type} (ref03_token : ref03_token_ty R) (ref03_Scan_5_0_L : ref03_Scan_5_0_ty R) (x1 : Str) (k : V → Heap → Option R) : funK tt (ref03_Scan_E R ref03_token) (ref03_Scan_T R ref03_Scan_5_0_L) false Tryd.f7 (codeOf Tryd.f7) [.str x1] [] k =
    ref03_Scan_X ref03_Scan_5_0_L x1 (fun q0 q1 q2 => k (.tuple [.sl .token q0 .no, .int .i64 q1, .int .i64 q2]) []) := by kernel_rfl
theorem ref03_Scan_loops (R : Type) : ∀ a ∈ loopsOf (codeOf Tryd.f7), LoopOk tt (ref03_Scan_E R ref03_token) (ref03_Scan_T R ref03_Scan_5_0_L) 0 a := by
  refine loops_ok 1 (by kernel_rfl) fun i hi => ?_
  match i, hi with
  | 0, _ => exact loopOk_some (by kernel_rfl) (ref03_Scan_5_0_ok _ loopNo_ok)
  | n + 1, hi => omega
theorem ref03_Scan_S_ok (R : Type) (other : Yard.Spec R) (ho : Yard.Spec.Ok Tryd.prog 7 other) : Yard.Spec.Ok Tryd.prog 7 (specBy ref03_Scan_p ref03_Scan_q (ref03_Scan_rr ref03_Scan) other) :=
  specBy_ok ho (funK_sound TT mixed (ref03_Scan_EOk R) (keep := false) rfl rfl rfl rfl 0 (ref03_Scan_loops R)) fun (x : Pat.dens ref03_Scan_p) (y : HPat.dens ref03_Scan_q) k => ref03_Scan_ok ref03_token ref03_Scan_5_0_L x.1 k

/-! ### humpyard/humpyardlaw03.Same -/
abbrev law03_Same_ty (R : Type) : Type := (List Token) → (List Token) → (Bool → Option R) → Option R
abbrev law03_Same_p : List Pat := [.leaf (.sl .token), .leaf (.sl .token)]
abbrev law03_Same_q : List HPat := []
noncomputable def law03_Same_rr {R : Type} (fn : law03_Same_ty R) : Pat.dens law03_Same_p → HPat.dens law03_Same_q → (V → Heap → Option R) → Option R := fun x y k => fn x.1 x.2.1 (fun q0 => k (.bool q0) [])
abbrev law03_Same_4_0_ty (R : Type) : Type := Nat → (List Token) → (List Token) → Int → (Option R) → (Bool → Option R) → Option R
noncomputable def law03_Same_E (R : Type) : Env R := fun i => match i with
  | _ => none
theorem law03_Same_EOk (R : Type) : EOk Tryd.prog (law03_Same_E R) := by
  intro i b sp h
  unfold law03_Same_E at h
  split at h
  · cases h

noncomputable def law03_Same_4_0_B {R : Type} (rec' : (List Token) → (List Token) → Int → Option R) (x3 : List Token) (x4 : List Token) (x5 : Int) (e0 : Option R) (e1 : Bool → Option R) : Option R :=
  bif (decide (x5 < (x3.length : Int))) then (chk (decide ((0 : Int) ≤ x5) && decide (x5 < x3.length)) (chk (decide ((0 : Int) ≤ x5) && decide (x5 < x4.length)) (bif (!((x3.getD x5.toNat (Ty.dflt .token)).kind == (x4.getD x5.toNat (Ty.dflt .token)).kind && ((x3.getD x5.toNat (Ty.dflt .token)).text == (x4.getD x5.toNat (Ty.dflt .token)).text && ((x3.getD x5.toNat (Ty.dflt .token)).num.mant == (x4.getD x5.toNat (Ty.dflt .token)).num.mant && ((x3.getD x5.toNat (Ty.dflt .token)).num.exp == (x4.getD x5.toNat (Ty.dflt .token)).num.exp && ((x3.getD x5.toNat (Ty.dflt .token)).at_ == (x4.getD x5.toNat (Ty.dflt .token)).at_ && true)))))) then (e1 false) else (rec' x3 x4 (IntKind.i64.wrap (x5 + 1)))))) else (e0)
noncomputable def law03_Same_4_0_L {R : Type} : law03_Same_4_0_ty R
  | 0, _, _, _, _, _ => none
  | n + 1, x0', x1', x2', e0, e1 => law03_Same_4_0_B (fun x0' x1' x2' => law03_Same_4_0_L n x0' x1' x2' e0 e1) x0' x1' x2' e0 e1
noncomputable def law03_Same_4_0_h : Hint := { live := [0, 1, 5], own := [], rows := [], cells := [], drop := [], out := [4] }
abbrev law03_Same_4_0_D : Type := (List Token) × (List Token) × Int
noncomputable def law03_Same_4_0_enc : law03_Same_4_0_D → St := fun d => ⟨[.sl .token d.1 .no, .sl .token d.2.1 .no, .undef, .undef, .undef, .int .i64 d.2.2, .undef, .undef, .undef, .undef, .undef, .undef, .undef, .undef, .undef, .undef, .undef, .undef, .undef, .undef, .undef, .undef, .undef, .undef, .undef, .undef], []⟩
noncomputable def law03_Same_4_0_x0 {R : Type} (K : Ex → St → Option R) : Option R := K (.exit 0) ⟨[.undef, .undef, .undef, .undef, .undef, .undef, .undef, .undef, .undef, .undef, .undef, .undef, .undef, .undef, .undef, .undef, .undef, .undef, .undef, .undef, .undef, .undef, .undef, .undef, .undef, .undef], []⟩
noncomputable def law03_Same_4_0_x1 {R : Type} (K : Ex → St → Option R) (q0 : Bool) : Option R := K (.ret) ⟨[.undef, .undef, .undef, .undef, .bool q0, .undef, .undef, .undef, .undef, .undef, .undef, .undef, .undef, .undef, .undef, .undef, .undef, .undef, .undef, .undef, .undef, .undef, .undef, .undef, .undef, .undef], []⟩
noncomputable def law03_Same_4_0_s {R : Type} (K : Ex → St → Option R) (rc : law03_Same_4_0_D → Option R) (d : law03_Same_4_0_D) : Option R := law03_Same_4_0_B (fun z0 z1 z2 => rc (z0, z1, z2)) d.1 d.2.1 d.2.2 (law03_Same_4_0_x0 K) (law03_Same_4_0_x1 K)
noncomputable def law03_Same_4_0_A {R : Type} (K : Ex → St → Option R) (n : Nat) (d : law03_Same_4_0_D) : Option R := law03_Same_4_0_L n d.1 d.2.1 d.2.2 (law03_Same_4_0_x0 K) (law03_Same_4_0_x1 K)
abbrev law03_Same_4_0_p : List Pat := [.leaf (.sl .token), .leaf (.sl .token), .leaf (.undef), .leaf (.undef), .leaf (.undef), .leaf (.int .i64), .leaf (.undef), .leaf (.undef), .leaf (.undef), .leaf (.undef), .leaf (.undef), .leaf (.undef), .leaf (.undef), .leaf (.undef), .leaf (.undef), .leaf (.undef), .leaf (.undef), .leaf (.undef), .leaf (.undef), .leaf (.undef), .leaf (.undef), .leaf (.undef), .leaf (.undef), .leaf (.undef), .leaf (.undef), .leaf (.undef)]
abbrev law03_Same_4_0_q : List HPat := []
noncomputable def law03_Same_4_0_f (x : Pat.dens law03_Same_4_0_p) (y : HPat.dens law03_Same_4_0_q) : Nat := (List.length x.1 + List.length x.2.1 + Int.natAbs x.2.2.2.2.2.1 + 64)
noncomputable def law03_Same_4_0_d (x : Pat.dens law03_Same_4_0_p) (y : HPat.dens law03_Same_4_0_q) : law03_Same_4_0_D := (x.1, x.2.1, x.2.2.2.2.2.1)
noncomputable def law03_Same_4_0_rr {R : Type} (L : law03_Same_4_0_ty R) : Pat.dens law03_Same_4_0_p → HPat.dens law03_Same_4_0_q → (Ex → St → Option R) → Option R := fun x y K => L (law03_Same_4_0_f x y) x.1 x.2.1 x.2.2.2.2.2.1 (law03_Same_4_0_x0 K) (law03_Same_4_0_x1 K)
noncomputable def law03_Same_T (R : Type) (law03_Same_4_0_L : law03_Same_4_0_ty R) : Nat → Option (Hint × LSpec R) := fun i => match i with
  | 4 => some (law03_Same_4_0_h, (loopBy law03_Same_4_0_p law03_Same_4_0_q (law03_Same_4_0_rr law03_Same_4_0_L) loopNo))
  | _ => none

theorem law03_Same_4_0_B_ok {R : Type} (law03_Same_4_0_L : law03_Same_4_0_ty R) (K : Ex → St → Option R) (rc : St → Option R) (d : law03_Same_4_0_D) : roundOf tt (law03_Same_E R) (law03_Same_T R law03_Same_4_0_L) 0 ((loopsOf (codeOf Tryd.f8)).getD 0 .skip) law03_Same_4_0_h (law03_Same_4_0_enc d) rc K = law03_Same_4_0_s K (fun d => rc (law03_Same_4_0_enc d)) d := by kernel_rfl
theorem law03_Same_4_0_A_succ {R : Type} (K : Ex → St → Option R) (n : Nat) (d : law03_Same_4_0_D) : law03_Same_4_0_A K (n + 1) d = law03_Same_4_0_s K (law03_Same_4_0_A K n) d := by kernel_rfl
theorem law03_Same_4_0_A_zero {R : Type} (K : Ex → St → Option R) (d : law03_Same_4_0_D) : law03_Same_4_0_A K 0 d = none := by kernel_rfl
theorem law03_Same_4_0_e_ok (x : Pat.dens law03_Same_4_0_p) (y : HPat.dens law03_Same_4_0_q) : (⟨Pat.encL law03_Same_4_0_p x, HPat.encL law03_Same_4_0_q y⟩ : St) = law03_Same_4_0_enc (law03_Same_4_0_d x y) := by kernel_rfl
theorem law03_Same_4_0_r_ok {R : Type} (x : Pat.dens law03_Same_4_0_p) (y : HPat.dens law03_Same_4_0_q) (K : Ex → St → Option R) : law03_Same_4_0_rr (law03_Same_4_0_L) x y K = law03_Same_4_0_A K (law03_Same_4_0_f x y) (law03_Same_4_0_d x y) := by kernel_rfl
theorem law03_Same_4_0_ok {R : Type} (other : LSpec R) (ho : LsOk tt (law03_Same_E R) (law03_Same_T R law03_Same_4_0_L) 0 ((loopsOf (codeOf Tryd.f8)).getD 0 .skip) law03_Same_4_0_h other) : LsOk tt (law03_Same_E R) (law03_Same_T R law03_Same_4_0_L) 0 ((loopsOf (codeOf Tryd.f8)).getD 0 .skip) law03_Same_4_0_h (loopBy law03_Same_4_0_p law03_Same_4_0_q (law03_Same_4_0_rr (law03_Same_4_0_L)) other) :=
  loopBy_tie (A := law03_Same_4_0_A) ho (loop_tie law03_Same_4_0_enc (law03_Same_4_0_s) (law03_Same_4_0_A) (law03_Same_4_0_A_zero) (law03_Same_4_0_B_ok law03_Same_4_0_L) (law03_Same_4_0_A_succ)) law03_Same_4_0_f law03_Same_4_0_d law03_Same_4_0_e_ok (law03_Same_4_0_r_ok)

noncomputable def law03_Same_X {R : Type} (law03_Same_4_0_L : law03_Same_4_0_ty R) (x1 : List Token) (x2 : List Token) (k0 : Bool → Option R) : Option R :=
  bif ((x1.length : Int) != (x2.length : Int)) then (k0 false) else (law03_Same_4_0_L (List.length x1 + List.length x2 + Int.natAbs 0 + 64) x1 x2 0 (k0 true) (fun y6 => k0 y6))
noncomputable def law03_Same {R : Type} : law03_Same_ty R := fun x1 x2 k0 => law03_Same_X law03_Same_4_0_L x1 x2 k0
theorem law03_Same_ok {R : Type} (law03_Same_4_0_L : law03_Same_4_0_ty R) (x1 : List Token) (x2 : List Token) (k : V → Heap → Option R) : funK tt (law03_Same_E R) (law03_Same_T R law03_Same_4_0_L) false Tryd.f8 (codeOf Tryd.f8) [.sl .token x1 .no, .sl .token x2 .no] [] k =
    law03_Same_X law03_Same_4_0_L x1 x2 (fun q0 => k (.bool q0) []) := by kernel_rfl
theorem law03_Same_loops (R : Type) : ∀ a ∈ loopsOf (codeOf Tryd.f8), LoopOk tt (law03_Same_E R) (law03_Same_T R law03_Same_4_0_L) 0 a := by
  refine loops_ok 1 (by kernel_rfl) fun i hi => ?_
  match i, hi with
  | 0, _ => exact loopOk_some (by kernel_rfl) (law03_Same_4_0_ok _ loopNo_ok)
  | n + 1, hi => omega
theorem law03_Same_S_ok (R : Type) (other : Yard.Spec R) (ho : Yard.Spec.Ok Tryd.prog 8 other) : Yard.Spec.Ok Tryd.prog 8 (specBy law03_Same_p law03_Same_q (law03_Same_rr law03_Same) other) :=
  specBy_ok ho (funK_sound TT mixed (law03_Same_EOk R) (keep := false) rfl rfl rfl rfl 0 (law03_Same_loops R)) fun (x : Pat.dens law03_Same_p) (y : HPat.dens law03_Same_q) k => law03_Same_ok law03_Same_4_0_L x.1 x.2.1 k

/-! ### humpyard/humpyardlaw03.LexerTells -/
abbrev law03_LexerTells_ty (R : Type) : Type := Str → (Bool → Option R) → Option R
abbrev law03_LexerTells_p : List Pat := [.leaf (.str)]
abbrev law03_LexerTells_q : List HPat := []
noncomputable def law03_LexerTells_rr {R : Type} (fn : law03_LexerTells_ty R) : Pat.dens law03_LexerTells_p → HPat.dens law03_LexerTells_q → (V → Heap → Option R) → Option R := fun x y k => fn x.1 (fun q0 => k (.bool q0) [])
noncomputable def law03_LexerTells_E (R : Type) (law03_Same : law03_Same_ty R) (law03_awake : law03_awake_ty R) (ref03_Scan : ref03_Scan_ty R) (lexer_Scan : lexer_Scan_ty R) : Env R := fun i => match i with
  | 8 => some (true, (specBy law03_Same_p law03_Same_q (law03_Same_rr law03_Same) specNo))
  | 5 => some (true, (specBy law03_awake_p law03_awake_q (law03_awake_rr law03_awake) specNo))
  | 7 => some (true, (specBy ref03_Scan_p ref03_Scan_q (ref03_Scan_rr ref03_Scan) specNo))
  | 6 => some (true, (specBy lexer_Scan_p lexer_Scan_q (lexer_Scan_rr lexer_Scan) specNo))
  | _ => none
theorem law03_LexerTells_EOk (R : Type) : EOk Tryd.prog (law03_LexerTells_E R law03_Same law03_awake ref03_Scan lexer_Scan) := by
  intro i b sp h
  unfold law03_LexerTells_E at h
  split at h
  · cases h; exact ⟨(law03_Same_S_ok R _ (specNo_ok _)), fun h => nomatch h⟩
  · cases h; exact ⟨(law03_awake_S_ok R _ (specNo_ok _)), fun h => nomatch h⟩
  · cases h; exact ⟨(ref03_Scan_S_ok R _ (specNo_ok _)), fun h => nomatch h⟩
  · cases h; exact ⟨(lexer_Scan_S_ok R _ (specNo_ok _)), fun h => nomatch h⟩
  · cases h

noncomputable def law03_LexerTells_T (R : Type) : Nat → Option (Hint × LSpec R) := fun i => match i with
  | _ => none

noncomputable def law03_LexerTells_X {R : Type} (law03_Same : law03_Same_ty R) (law03_awake : law03_awake_ty R) (ref03_Scan : ref03_Scan_ty R) (lexer_Scan : lexer_Scan_ty R) (x1 : Str) (k0 : Bool → Option R) : Option R :=
  law03_awake (fun y2 => bif (decide ((x1.length : Int) > (4000 : Int))) then (bif (decide ((x1.length : Int) ≤ (20000 : Int))) then (k0 y2) else (lexer_Scan x1 (fun y12 y13 y14 => ref03_Scan x1 (fun y15 y16 y17 => bif y2 then (law03_Same y12 y15 (fun y18 => bif y18 then (bif (y13 == y16) then (k0 (y14 == y17)) else (k0 false)) else (k0 false))) else (k0 false))))) else (lexer_Scan x1 (fun y20 y21 y22 => ref03_Scan x1 (fun y23 y24 y25 => bif y2 then (law03_Same y20 y23 (fun y26 => bif y26 then (bif (y21 == y24) then (k0 (y22 == y25)) else (k0 false)) else (k0 false))) else (k0 false)))))
noncomputable def law03_LexerTells {R : Type} : law03_LexerTells_ty R := fun x1 k0 => law03_LexerTells_X law03_Same law03_awake ref03_Scan lexer_Scan x1 k0
theorem law03_LexerTells_ok {R : Type} (law03_Same : law03_Same_ty R) (law03_awake : law03_awake_ty R) (ref03_Scan : ref03_Scan_ty R) (lexer_Scan : lexer_Scan_ty R) (x1 : Str) (k : V → Heap → Option R) : funK tt (law03_LexerTells_E R law03_Same law03_awake ref03_Scan lexer_Scan) (law03_LexerTells_T R) false Tryd.f3 (codeOf Tryd.f3) [.str x1] [] k =
    law03_LexerTells_X law03_Same law03_awake ref03_Scan lexer_Scan x1 (fun q0 => k (.bool q0) []) := by kernel_rfl
theorem law03_LexerTells_loops (R : Type) : ∀ a ∈ loopsOf (codeOf Tryd.f3), LoopOk tt (law03_LexerTells_E R law03_Same law03_awake ref03_Scan lexer_Scan) (law03_LexerTells_T R) 0 a := by
  refine loops_ok 0 (by kernel_rfl) fun i hi => ?_
  omega
theorem law03_LexerTells_S_ok (R : Type) (other : Yard.Spec R) (ho : Yard.Spec.Ok Tryd.prog 3 other) : Yard.Spec.Ok Tryd.prog 3 (specBy law03_LexerTells_p law03_LexerTells_q (law03_LexerTells_rr law03_LexerTells) other) :=
  specBy_ok ho (funK_sound TT mixed (law03_LexerTells_EOk R) (keep := false) rfl rfl rfl rfl 0 (law03_LexerTells_loops R)) fun (x : Pat.dens law03_LexerTells_p) (y : HPat.dens law03_LexerTells_q) k => law03_LexerTells_ok law03_Same law03_awake ref03_Scan lexer_Scan x.1 k

end Go.Proofs.YtmlkkgfenfdndaaDoor

/-
  Functions of the program as pure Lean functions, and the ties; printed by wip/tools/emit.py.
-/
set_option maxRecDepth 100000
set_option linter.unusedVariables false
namespace Go.Proofs.YtmlkkgfenfdndaaDoor
open Go Go.Yard

end Go.Proofs.YtmlkkgfenfdndaaDoor

set_option linter.unusedVariables false
set_option maxRecDepth 100000
namespace Go.Proofs.YtmlkkgfenfdndaaDoor
open Go Go.Yard

theorem pow_pos10 (j : Nat) : (1 : Int) ≤ 10 ^ j := by
  induction j with
  | zero => simp
  | succ j ih => rw [Int.pow_succ]; omega

theorem abs_le_mul (u : Int) (j : Nat) : u.natAbs ≤ (u * 10 ^ j).natAbs := by
  rw [Int.natAbs_mul]
  have h := pow_pos10 j
  have : 1 ≤ ((10 : Int) ^ j).natAbs := by omega
  exact Nat.le_mul_of_pos_right _ this

theorem noughts_le (u : Int) (hu : u ≠ 0) : ∀ j : Nat, j ≤ (u * 10 ^ j).natAbs := by
  intro j
  rw [Int.natAbs_mul]
  have h1 : 1 ≤ u.natAbs := by omega
  have h2 : j ≤ ((10 : Int) ^ j).natAbs := by
    induction j with
    | zero => simp
    | succ j ih =>
      have := pow_pos10 j
      rw [Int.pow_succ, Int.natAbs_mul]
      show j + 1 ≤ ((10 : Int) ^ j).natAbs * 10
      omega
  calc j ≤ ((10 : Int) ^ j).natAbs := h2
    _ ≤ u.natAbs * ((10 : Int) ^ j).natAbs := Nat.le_mul_of_pos_left _ h1

theorem noughts_pow (u : Int) (hu : u ≠ 0) (j : Nat) : 2 ^ j ≤ (u * 10 ^ j).natAbs := by
  rw [Int.natAbs_mul]
  have h2 : ∀ j : Nat, 2 ^ j ≤ ((10 : Int) ^ j).natAbs := by
    intro j
    induction j with
    | zero => simp
    | succ j ih =>
      rw [Int.pow_succ, Int.natAbs_mul, Nat.pow_succ]
      show 2 ^ j * 2 ≤ ((10 : Int) ^ j).natAbs * 10
      omega
  exact Nat.le_trans (h2 j) (Nat.le_mul_of_pos_left _ (by omega))

theorem noughts_64 {u : Int} (hu : u ≠ 0) {j : Nat} (hb : I64 (u * 10 ^ j)) : j < 64 := by
  have h := noughts_pow u hu j
  unfold I64 at hb
  rcases Nat.lt_or_ge j 64 with h1 | h1
  · exact h1
  · have h2 : (2 : Nat) ^ 64 ≤ 2 ^ j := Nat.pow_le_pow_right (by omega) h1
    have h3 : (2 : Nat) ^ 64 = 18446744073709551616 := rfl
    omega

theorem make_loop {R : Type} (d : Dcm) (e0 : Int → Int → Dcm → Option R) : ∀ (j n : Nat) (u x : Int), j < n → Int.tmod u 10 ≠ 0 → I64 (u * 10 ^ j) → -9223372036854775808 ≤ x → x + j ≤ 4000000000000000000 →
    decimal_Make_4_0_L n (u * 10 ^ j) x d e0 = e0 u (x + j) d := by
  intro j
  induction j with
  | zero =>
    intro n u x hn hu hb h1 h2
    obtain ⟨m, rfl⟩ : ∃ m, n = m + 1 := ⟨n - 1, by omega⟩
    have e : decimal_Make_4_0_L (m + 1) (u * 10 ^ 0) x d e0 = decimal_Make_4_0_B (fun x0' x1' x2' => decimal_Make_4_0_L m x0' x1' x2' e0) (u * 10 ^ 0) x d e0 := rfl
    rw [e]
    unfold decimal_Make_4_0_B
    have e1 : u * 10 ^ 0 = u := by simp
    have e2 : (Int.tmod u 10 == 0) = false := by rw [beq_eq_false_iff_ne]; exact hu
    rw [e1, e2, cond_false]
    simp
  | succ j ih =>
    intro n u x hn hu hb h1 h2
    obtain ⟨m, rfl⟩ : ∃ m, n = m + 1 := ⟨n - 1, by omega⟩
    have e : decimal_Make_4_0_L (m + 1) (u * 10 ^ (j + 1)) x d e0 = decimal_Make_4_0_B (fun x0' x1' x2' => decimal_Make_4_0_L m x0' x1' x2' e0) (u * 10 ^ (j + 1)) x d e0 := rfl
    rw [e]
    unfold decimal_Make_4_0_B
    have ep : u * 10 ^ (j + 1) = u * 10 ^ j * 10 := by rw [Int.pow_succ, Int.mul_assoc]
    unfold I64 at hb
    rw [ep] at hb ⊢
    have e1 : (Int.tmod (u * 10 ^ j * 10) 10 == 0) = true := by rw [Int.mul_tmod_left]; rfl
    have e2 : Int.tdiv (u * 10 ^ j * 10) 10 = u * 10 ^ j := Int.mul_tdiv_cancel _ (by omega)
    rw [e1, cond_true, e2, wrap_id (n := u * 10 ^ j) (by omega) (by omega), wrap_id (n := x + 1) (by omega) (by omega)]
    show decimal_Make_4_0_L m (u * 10 ^ j) (x + 1) d e0 = _
    rw [ih m u (x + 1) (by omega) hu (by unfold I64; omega) (by omega) (by omega)]
    have : x + 1 + (j : Int) = x + ((j + 1 : Nat) : Int) := by omega
    rw [this]

theorem within_ok {R : Type} (a b c : Int) (k : Bool → Option R) : decimal_within_int a b c k = k (decide (a ≤ b) && decide (b ≤ c)) := by
  have e : decimal_within_int a b c k = decimal_within_int_X a b c k := rfl
  rw [e]
  unfold decimal_within_int_X
  by_cases h1 : a ≤ b
  · rw [dtrue h1]; first | rfl | simp
  · rw [dfalse h1]; first | rfl | simp

def mkD (u x : Int) : Dcm × Bool := if -1000000000000000 ≤ u ∧ u ≤ 1000000000000000 ∧ -9 ≤ x ∧ x ≤ 9 then (⟨u, x⟩, true) else (⟨0, 0⟩, false)

theorem make_ok {R : Type} (u : Int) (j : Nat) (x : Int) (hu : Int.tmod u 10 ≠ 0) (hb : I64 (u * 10 ^ j)) (h1 : -9223372036854775808 ≤ x) (h2 : x ≤ 1000000) (k : Dcm → Bool → Option R) :
    decimal_Make (u * 10 ^ j) x k = k (mkD u (x + j)).1 (mkD u (x + j)).2 := by
  have e : decimal_Make (u * 10 ^ j) x k = decimal_Make_X decimal_within_int decimal_Make_4_0_L (u * 10 ^ j) x k := rfl
  rw [e]
  unfold decimal_Make_X
  have hu0 : u ≠ 0 := by rintro rfl; exact hu rfl
  have ha := abs_le_mul u j
  have hn := noughts_le u hu0 j
  have h64 := noughts_64 hu0 hb
  have h0 : (u * 10 ^ j == 0) = false := by rw [beq_eq_false_iff_ne]; omega
  have hm : min x 1000000 = x := Int.min_eq_left h2
  unfold I64 at hb
  rw [h0, cond_false, hm, make_loop _ _ j _ u x (by omega) hu (by unfold I64; exact hb) h1 (by omega)]
  rw [within_ok]
  unfold mkD
  by_cases c1 : -1000000000000000 ≤ u ∧ u ≤ 1000000000000000
  · rw [dtrue c1.1, dtrue c1.2]
    simp only [Bool.and_self, Bool.not_true, cond_false]
    rw [within_ok]
    by_cases c2 : -9 ≤ x + (j : Int) ∧ x + (j : Int) ≤ 9
    · rw [dtrue c2.1, dtrue c2.2, if_pos ⟨c1.1, c1.2, c2.1, c2.2⟩]
      rfl
    · rw [if_neg (fun h => c2 h.2.2)]
      have : (decide (-9 ≤ x + (j : Int)) && decide (x + (j : Int) ≤ 9)) = false := by
        rw [Bool.and_eq_false_iff, decide_eq_false_iff_not, decide_eq_false_iff_not]; omega
      rw [this]
      rfl
  · rw [if_neg (fun h => c1 ⟨h.1, h.2.1⟩)]
    have : (decide (-1000000000000000 ≤ u) && decide (u ≤ 1000000000000000)) = false := by
      rw [Bool.and_eq_false_iff, decide_eq_false_iff_not, decide_eq_false_iff_not]; omega
    rw [this]
    rfl

theorem make_zero {R : Type} (x : Int) (k : Dcm → Bool → Option R) : decimal_Make 0 x k = k ⟨0, 0⟩ true := by
  have e : decimal_Make 0 x k = decimal_Make_X decimal_within_int decimal_Make_4_0_L 0 x k := rfl
  rw [e]
  rfl

end Go.Proofs.YtmlkkgfenfdndaaDoor

set_option linter.unusedVariables false
set_option maxRecDepth 100000
namespace Go.Proofs.YtmlkkgfenfdndaaDoor
open Go Go.Yard Go.Lib

def Fm (d : Dcm) : Prop := (d.mant = 0 ∧ d.exp = 0) ∨ (Int.tmod d.mant 10 ≠ 0 ∧ -1000000000000000 ≤ d.mant ∧ d.mant ≤ 1000000000000000 ∧ -9 ≤ d.exp ∧ d.exp ≤ 9)

theorem Fm.zero {d : Dcm} (h : Fm d) (h0 : d.mant = 0) : d = ⟨0, 0⟩ := by
  rcases h with h | h
  · cases d; simp only at h; rw [h.1, h.2]
  · exact (h.1 (by rw [h0]; rfl)).elim
theorem tmod_neg {m : Int} (h : Int.tmod m 10 ≠ 0) : Int.tmod (-m) 10 ≠ 0 := by rw [Int.neg_tmod]; omega
theorem Fm.neg {d : Dcm} (h : Fm d) : Fm ⟨-d.mant, d.exp⟩ := by
  rcases h with h | h
  · exact .inl ⟨by simp only; omega, h.2⟩
  · exact .inr ⟨tmod_neg h.1, by simp only; omega, by simp only; omega, h.2.2.2⟩

end Go.Proofs.YtmlkkgfenfdndaaDoor


set_option linter.unusedVariables false
set_option maxRecDepth 100000
namespace Go.Proofs.YtmlkkgfenfdndaaDoor
open Go Go.Yard Go.Lib

def val (d : Dcm) : Int := d.mant * 10 ^ (d.exp + 9).toNat

end Go.Proofs.YtmlkkgfenfdndaaDoor

set_option linter.unusedVariables false
set_option maxRecDepth 100000
namespace Go.Proofs.YtmlkkgfenfdndaaDoor
open Go Go.Yard

abbrev zs (s : Str) : List Int := s.map fun b => (b.toNat : Int)
theorem zs_app (s t : Str) : zs (s ++ t) = zs s ++ zs t := List.map_append
theorem zs_bytesN (s : Str) : bytesN s = zs s := rfl
theorem zs_len (s : Str) : (zs s).length = s.length := List.length_map _
theorem bstr_zs (s : Str) : bstr (zs s) = s := by
  unfold bstr zs
  rw [List.map_map]
  conv => rhs; rw [← List.map_id s]
  exact List.map_congr_left fun b _ => by simp
theorem zs_nat (n : Nat) (h : n < 256) : ((UInt8.ofNat n).toNat : Int) = n := by rw [u8_nat n h]

def Lim (s : Str) : Prop := s.length ≤ 100000000000

theorem or128 : ∀ x : Fin 64, IntKind.u8.wrap ((BitVec.ofInt IntKind.u8.bits 128 ||| BitVec.ofInt IntKind.u8.bits (x.val : Int)).toNat : Int) = ((128 + x.val : Nat) : Int) := by decide +kernel
theorem or192 : ∀ x : Fin 32, IntKind.u8.wrap ((BitVec.ofInt IntKind.u8.bits 192 ||| BitVec.ofInt IntKind.u8.bits (IntKind.u8.wrap (x.val : Int))).toNat : Int) = ((192 + x.val : Nat) : Int) := by decide +kernel
theorem or224 : ∀ x : Fin 16, IntKind.u8.wrap ((BitVec.ofInt IntKind.u8.bits 224 ||| BitVec.ofInt IntKind.u8.bits (IntKind.u8.wrap (x.val : Int))).toNat : Int) = ((224 + x.val : Nat) : Int) := by decide +kernel
theorem or240 : ∀ x : Fin 8, IntKind.u8.wrap ((BitVec.ofInt IntKind.u8.bits 240 ||| BitVec.ofInt IntKind.u8.bits (IntKind.u8.wrap (x.val : Int))).toNat : Int) = ((240 + x.val : Nat) : Int) := by decide +kernel
theorem and63 : ∀ x : Fin 256, IntKind.u8.wrap ((BitVec.ofInt IntKind.u8.bits (x.val : Int) &&& BitVec.ofInt IntKind.u8.bits 63).toNat : Int) = ((x.val % 64 : Nat) : Int) := by decide +kernel

theorem wrap8 (n : Nat) : IntKind.u8.wrap (n : Int) = ((n % 256 : Nat) : Int) := by
  simp only [IntKind.wrap, IntKind.bits, IntKind.signed]
  simp
theorem wrap32u {n : Nat} (h : n < 1114112) : IntKind.u32.wrap (n : Int) = (n : Int) := by
  simp only [IntKind.wrap, IntKind.bits, IntKind.signed]
  simp
  omega
theorem shr (c n : Nat) (h : n ≤ 32) : Int.fdiv (c : Int) (2 ^ (min n IntKind.i32.bits)) = ((c / 2 ^ n : Nat) : Int) := by
  have e : min n IntKind.i32.bits = n := Nat.min_eq_left h
  rw [e, Int.fdiv_eq_ediv_of_nonneg _ (by exact Int.le_of_lt (Int.pow_pos (by omega)))]
  rw [Int.natCast_ediv]
  congr 1

theorem cont (c : Nat) : IntKind.u8.wrap ((BitVec.ofInt IntKind.u8.bits 128 ||| BitVec.ofInt IntKind.u8.bits (IntKind.u8.wrap ((BitVec.ofInt IntKind.u8.bits (IntKind.u8.wrap (c : Int)) &&& BitVec.ofInt IntKind.u8.bits 63).toNat : Int))).toNat : Int) = ((128 + c % 64 : Nat) : Int) := by
  have h1 := and63 ⟨c % 256, Nat.mod_lt _ (by omega)⟩
  simp only at h1
  rw [wrap8 c, h1, show c % 256 % 64 = c % 64 by omega]
  exact or128 ⟨c % 64, Nat.mod_lt _ (by omega)⟩

theorem zs_enc1 (n : Nat) (h : n < 256) : zs [UInt8.ofNat n] = [(n : Int)] := by simp only [zs, List.map_cons, List.map_nil, zs_nat n h]

theorem ar {R : Type} {c : Nat} (hv : vr c) (s : Str) (hl : Lim s) (k : List Int → Option R) : unicode_utf8_AppendRune_7b6c (zs s) (c : Int) k = k (zs (s ++ enc c)) := by
  have hlt := vr_lt hv
  unfold Lim at hl
  show unicode_utf8_AppendRune_7b6c_X unicode_utf8_appendRuneNonASCII_7b6c (zs s) (c : Int) k = _
  unfold unicode_utf8_AppendRune_7b6c_X
  rw [wrap32u hlt, zs_app]
  rcases enc_cases hv with ⟨h1, e⟩ | ⟨h0, h1, e⟩ | ⟨h0, h1, e⟩ | ⟨h0, e⟩
  · rw [dtrue (show (c : Int) ≤ 127 by omega), cond_true, chk_pos (dtrue (by rw [zs_len]; omega)), e, zs_enc1 c (by omega), wrap8, Nat.mod_eq_of_lt (by omega)]
  all_goals
    rw [dfalse (show ¬ (c : Int) ≤ 127 by omega), cond_false]
    show unicode_utf8_appendRuneNonASCII_7b6c_X (zs s) (c : Int) _ = _
    unfold unicode_utf8_appendRuneNonASCII_7b6c_X
    rw [wrap32u hlt, e]
    simp only [cont, shr _ 6 (by omega), shr _ 12 (by omega), shr _ 18 (by omega), zs_len]
  · rw [dtrue (show (c : Int) ≤ 2047 by omega), cond_true, chk_pos (dtrue (by omega))]
    have := or192 ⟨c / 64, by omega⟩
    simp only at this
    rw [show c / 2 ^ 6 = c / 64 from rfl, this]
    simp only [zs, List.map_cons, List.map_nil, zs_nat (192 + c / 64) (by omega), zs_nat (128 + c % 64) (by omega)]
  · rw [dfalse (show ¬ (c : Int) ≤ 2047 by omega), cond_false]
    unfold vr at hv
    by_cases h2 : c < 55296
    · rw [dtrue (show (c : Int) < 55296 by omega), cond_true, cond_true, chk_pos (dtrue (by omega))]
      have := or224 ⟨c / 4096, by omega⟩
      simp only at this
      rw [show c / 2 ^ 12 = c / 4096 from rfl, this]
      simp only [zs, List.map_cons, List.map_nil, zs_nat (224 + c / 4096) (by omega), zs_nat (128 + c % 64) (by omega), zs_nat (128 + c / 64 % 64) (by omega)]
    rw [dfalse (show ¬ (c : Int) < 55296 by omega), cond_false, dtrue (show (57343 : Int) < (c : Int) by omega), cond_true, dtrue (show (c : Int) ≤ 65535 by omega), cond_true, chk_pos (dtrue (by omega))]
    have := or224 ⟨c / 4096, by omega⟩
    simp only at this
    rw [show c / 2 ^ 12 = c / 4096 from rfl, this]
    simp only [zs, List.map_cons, List.map_nil, zs_nat (224 + c / 4096) (by omega), zs_nat (128 + c % 64) (by omega), zs_nat (128 + c / 64 % 64) (by omega)]
  · rw [dfalse (show ¬ (c : Int) ≤ 2047 by omega), cond_false]
    rw [dfalse (show ¬ (c : Int) < 55296 by omega), cond_false, dtrue (show (57343 : Int) < (c : Int) by omega), cond_true, dfalse (show ¬ (c : Int) ≤ 65535 by omega), cond_false,
      dtrue (show (c : Int) > 65535 by omega), cond_true, dtrue (show (c : Int) ≤ 1114111 by omega), cond_true, chk_pos (dtrue (by omega))]
    have := or240 ⟨c / 262144, by omega⟩
    simp only at this
    rw [show c / 2 ^ 18 = c / 262144 from rfl, this]
    simp only [zs, List.map_cons, List.map_nil, zs_nat (240 + c / 262144) (by omega), zs_nat (128 + c % 64) (by omega), zs_nat (128 + c / 64 % 64) (by omega), zs_nat (128 + c / 4096 % 64) (by omega)]

theorem wr {R : Type} {c : Nat} (hv : vr c) (s : Str) (hl : Lim s) (k : Int → List Int → Option R) : ∃ n : Int, strings_Builder_WriteRune_dc6e (c : Int) (zs s) k = k n (zs (s ++ enc c)) := by
  refine ⟨IntKind.i64.wrap (((zs (s ++ enc c)).length : Int) - ((zs s).length : Int)), ?_⟩
  show strings_Builder_WriteRune_dc6e_X unicode_utf8_AppendRune_7b6c (c : Int) (zs s) k = _
  unfold strings_Builder_WriteRune_dc6e_X
  rw [ar hv s hl]
end Go.Proofs.YtmlkkgfenfdndaaDoor

set_option linter.unusedVariables false
set_option maxRecDepth 100000
namespace Go.Proofs.YtmlkkgfenfdndaaDoor
open Go Go.Yard Go.Lib

def zeros (n : Nat) : Str := List.replicate n 48
theorem zeros_len (n : Nat) : (zeros n).length = n := List.length_replicate
end Go.Proofs.YtmlkkgfenfdndaaDoor

set_option linter.unusedVariables false
set_option maxRecDepth 100000
namespace Go.Proofs.YtmlkkgfenfdndaaDoor
open Go Go.Yard Go.Lib

theorem band2 {p q : Prop} [Decidable p] [Decidable q] (hp : p) (hq : q) : (decide p && decide q) = true := by rw [dtrue hp, dtrue hq]; rfl

theorem take_pre : ∀ (p s : Str), (s.take p.length == p) = p.isPrefixOf s
  | [], s => by simp
  | a :: p, [] => by simp
  | a :: p, b :: s => by
    have := take_pre p s
    simp only [List.length_cons, List.take_succ_cons, List.isPrefixOf]
    rw [List.cons_beq_cons, this]
    congr 1
    exact Bool.beq_comm

theorem skip_ok {R : Type} (p s : Str) (hp : p.length ≤ 1000) (hs : s.length ≤ 9000000000000000000) (k : Bool → Str → Option R) :
    quote_reader_skip_e74a p s k = if p.isPrefixOf s then k true (s.drop p.length) else k false s := by
  have e1 : ∀ f : Str → Bool → Option R, strings_CutPrefix s p f = internal_stringslite_CutPrefix s p f := fun _ => rfl
  show strings_CutPrefix s p (fun y3 y4 => k y4 y3) = _
  rw [e1]
  show internal_stringslite_CutPrefix_X internal_stringslite_HasPrefix s p (fun y3 y4 => k y4 y3) = _
  unfold internal_stringslite_CutPrefix_X
  have e2 : ∀ f : Bool → Option R, internal_stringslite_HasPrefix s p f = f (p.isPrefixOf s) := by
    intro f
    show internal_stringslite_HasPrefix_X s p f = _
    unfold internal_stringslite_HasPrefix_X
    by_cases h : p.length ≤ s.length
    · rw [dtrue (show (s.length : Int) ≥ (p.length : Int) by omega), cond_true, chk_pos (by rw [dtrue (show (0 : Int) ≤ (p.length : Int) by omega)]; rfl), chk_pos (dtrue (by omega))]
      rw [List.drop_zero, Int.toNat_natCast, Nat.sub_zero, take_pre]
    · rw [dfalse (show ¬ (s.length : Int) ≥ (p.length : Int) by omega), cond_false]
      congr 1
      rw [← take_pre]
      symm
      rw [beq_eq_false_iff_ne]
      intro e
      have := congrArg List.length e
      rw [List.length_take] at this
      omega
  rw [e2]
  cases hp2 : p.isPrefixOf s with
  | false => simp
  | true =>
    have hle : p.length ≤ s.length := (List.IsPrefix.length_le (List.isPrefixOf_iff_prefix.1 hp2))
    rw [Bool.not_true, cond_false, chk_pos (band2 (by omega) (by omega)), chk_pos (band2 (by omega) (by omega))]
    simp only [Int.toNat_natCast, if_true]
    rw [List.take_of_length_le (by rw [List.length_drop]; exact Nat.le_refl _)]

theorem decRune_eq {s : Str} (h : s ≠ []) : decRune s = decodeL s := by
  unfold decRune
  have : s.isEmpty = false := by cases s with | nil => exact (h rfl).elim | cons _ _ => rfl
  rw [this]
  rfl

def plainP (s : Str) : Option (Nat × Str) :=
  if s = [] then none else if (decodeL s).1 = 65533 ∧ (decodeL s).2 = 1 then none else if (decodeL s).1 < 32 then none else some ((decodeL s).1, s.drop (decodeL s).2)

theorem plain_ok {R : Type} (s : Str) (hs : s.length ≤ 9000000000000000000) (k : Int → Str → Option R) :
    quote_reader_plain_abbd s k = match plainP s with | some (c, r) => k (c : Int) r | none => k (-1) s := by
  show quote_reader_plain_abbd_X s k = _
  unfold quote_reader_plain_abbd_X
  by_cases h0 : s = []
  · subst h0; rfl
  rw [decRune_eq h0]
  have hw := decodeL_width s
  have hle := decodeL_le s h0
  have hj : (chk (decide ((0 : Int) ≤ (s.length : Int)) && decide ((s.length : Int) ≤ s.length)) (chk (decide ((0 : Int) ≤ ((decodeL s).2 : Int)) && decide (((decodeL s).2 : Int) ≤ (s.length : Int))) (k ((decodeL s).1 : Int) ((s.drop ((decodeL s).2 : Int).toNat).take ((s.length : Int).toNat - ((decodeL s).2 : Int).toNat))))) = k ((decodeL s).1 : Int) (s.drop (decodeL s).2) := by
    rw [chk_pos (band2 (by omega) (by omega)), chk_pos (band2 (by omega) (by omega)), Int.toNat_natCast, Int.toNat_natCast, List.take_of_length_le (by rw [List.length_drop]; exact Nat.le_refl _)]
  simp only [hj]
  unfold plainP
  rw [if_neg h0]
  by_cases h1 : (decodeL s).1 = 65533
  · have e1 : (((decodeL s).1 : Int) == 65533) = true := by rw [h1]; rfl
    rw [e1, cond_true]
    by_cases h2 : (decodeL s).2 = 1
    · rw [dtrue (show ((decodeL s).2 : Int) < 2 by omega), cond_true, if_pos ⟨h1, h2⟩]
    · rw [dfalse (show ¬ ((decodeL s).2 : Int) < 2 by omega), cond_false, dfalse (show ¬ ((decodeL s).1 : Int) < 32 by omega), cond_false, if_neg (fun h => h2 h.2), if_neg (by omega)]
  · have e1 : (((decodeL s).1 : Int) == 65533) = false := by rw [beq_eq_false_iff_ne]; omega
    rw [e1, cond_false, if_neg (fun h => h1 h.1)]
    by_cases h3 : (decodeL s).1 < 32
    · rw [dtrue (show ((decodeL s).1 : Int) < 32 by omega), cond_true, if_pos h3]
    · rw [dfalse (show ¬ ((decodeL s).1 : Int) < 32 by omega), cond_false, if_neg h3]

def hexv (b : UInt8) : Option Nat :=
  let n := b.toNat
  if 48 ≤ n ∧ n ≤ 57 then some (n - 48) else if 65 ≤ n ∧ n ≤ 70 then some (n - 55) else if 97 ≤ n ∧ n ≤ 102 then some (n - 87) else none
def hexN : Str → Nat → Option Nat
  | [], v => some v
  | b :: t, v => match hexv b with | some d => hexN t (16 * v + d) | none => none

def lowI (b : Int) : Int := IntKind.u8.wrap ((BitVec.ofInt IntKind.u8.bits b ||| BitVec.ofInt IntKind.u8.bits 32).toNat : Int)

def hexB (b : Nat) : Bool :=
  (!(decide (48 ≤ b) && decide (b ≤ 57)) || decide (IntKind.u8.wrap ((b : Int) - 48) = ((b - 48 : Nat) : Int))) &&
  (!(decide ((97 : Int) ≤ lowI b) && decide (lowI b ≤ 122)) || (!(decide (48 ≤ b) && decide (b ≤ 57)) && decide (b ≠ 95) && decide (IntKind.u8.wrap ((IntKind.u8.wrap (lowI b - 97)) + 10) = lowI b - 87) &&
    (!decide (lowI b - 87 < 16) || ((decide (65 ≤ b) && decide (b ≤ 70) && decide (lowI b - 87 = ((b - 55 : Nat) : Int))) || (decide (97 ≤ b) && decide (b ≤ 102) && decide (lowI b - 87 = ((b - 87 : Nat) : Int))))) &&
    (!decide (16 ≤ lowI b - 87) || (!(decide (65 ≤ b) && decide (b ≤ 70)) && !(decide (97 ≤ b) && decide (b ≤ 102)))))) &&
  ((decide ((97 : Int) ≤ lowI b) && decide (lowI b ≤ 122)) || (!(decide (65 ≤ b) && decide (b ≤ 70)) && !(decide (97 ≤ b) && decide (b ≤ 102))))
theorem hexB_all : ∀ b : Fin 256, hexB b.val = true := by decide +kernel
theorem hex_fact (b : Nat) (hb : b < 256) :
    ((48 ≤ b ∧ b ≤ 57) → IntKind.u8.wrap ((b : Int) - 48) = ((b - 48 : Nat) : Int)) ∧
    ((97 : Int) ≤ lowI b → lowI b ≤ 122 → ¬ (48 ≤ b ∧ b ≤ 57) ∧ b ≠ 95 ∧ IntKind.u8.wrap ((IntKind.u8.wrap (lowI b - 97)) + 10) = lowI b - 87 ∧
      (lowI b - 87 < 16 → ((65 ≤ b ∧ b ≤ 70) ∧ lowI b - 87 = ((b - 55 : Nat) : Int)) ∨ ((97 ≤ b ∧ b ≤ 102) ∧ lowI b - 87 = ((b - 87 : Nat) : Int))) ∧
      (16 ≤ lowI b - 87 → ¬ (65 ≤ b ∧ b ≤ 70) ∧ ¬ (97 ≤ b ∧ b ≤ 102))) ∧
    (¬ ((97 : Int) ≤ lowI b ∧ lowI b ≤ 122) → ¬ (65 ≤ b ∧ b ≤ 70) ∧ ¬ (97 ≤ b ∧ b ≤ 102)) := by
  have h := hexB_all ⟨b, hb⟩
  unfold hexB at h
  generalize lowI (b : Int) = l at *
  simp only [Bool.and_eq_true, Bool.or_eq_true, Bool.not_eq_true', Bool.and_eq_false_iff, decide_eq_true_eq, decide_eq_false_iff_not] at h
  obtain ⟨⟨h1, h2⟩, h3⟩ := h
  refine ⟨fun q => ?_, fun q1 q2 => ?_, fun q => ?_⟩
  · rcases h1 with h1 | h1
    · omega
    · exact h1
  · rcases h2 with h2 | ⟨⟨⟨⟨g1, g2⟩, g3⟩, g4⟩, g5⟩
    · omega
    · refine ⟨by omega, g2, g3, fun q => ?_, fun q => ?_⟩
      · rcases g4 with g4 | g4
        · omega
        · rcases g4 with ⟨⟨k1, k2⟩, k3⟩ | ⟨⟨k1, k2⟩, k3⟩
          · exact .inl ⟨⟨k1, k2⟩, k3⟩
          · exact .inr ⟨⟨k1, k2⟩, k3⟩
      · rcases g5 with g5 | ⟨k1, k2⟩
        · omega
        · exact ⟨by omega, by omega⟩
  · rcases h3 with h3 | ⟨k1, k2⟩
    · omega
    · exact ⟨by omega, by omega⟩

theorem hexv_lt {b : UInt8} {d : Nat} (h : hexv b = some d) : d < 16 := by
  unfold hexv at h
  simp only at h
  split at h
  · cases h; omega
  · split at h
    · cases h; omega
    · split at h
      · cases h; omega
      · cases h

theorem u64w {n : Int} (h0 : 0 ≤ n) (h : n ≤ 18446744073709551615) : IntKind.u64.wrap n = n := by
  simp only [IntKind.wrap, IntKind.bits, IntKind.signed]
  simp
  omega

theorem uint_round {R : Type} {s x22 : Str} {i v : Nat} (hi : i < s.length) (hs : s.length ≤ 1000) (hv : v < 4096) (rec' : Int → Bool → Str → Int → Int → Bool → Int → Nat → Int → Int → (List Int) → Option R) (e0 : Str → Bool → Int → Option R) (e1 e2 : Int → Str → Bool → Int → Option R) (e3 : Int → Str → Bool → Option R) :
    internal_strconv_ParseUint_36_0_B internal_strconv_lower rec' 16 false x22 1152921504606846976 65535 false (v : Int) s.length (s.length : Int) (i : Int) (bytesN s) e0 e1 e2 e3 =
      match hexv (s[i]) with
      | some d => rec' 16 false x22 1152921504606846976 65535 false ((16 * v + d : Nat) : Int) s.length (s.length : Int) ((i + 1 : Nat) : Int) (bytesN s)
      | none => e1 0 x22 false (v : Int) := by
  unfold internal_strconv_ParseUint_36_0_B
  have hlow : ∀ (n : Int) (f : Int → Option R), internal_strconv_lower n f = f (lowI n) := fun _ _ => rfl
  have hget : (bytesN s).getD (i : Int).toNat (Ty.dflt (.int .u8)) = (s[i].toNat : Int) := by
    rw [Int.toNat_natCast]
    show (s.map fun b => (b.toNat : Int)).getD i _ = _
    simp [List.getD, hi]
    rfl
  rw [dtrue (show (i : Int) < (s.length : Int) by omega), cond_true, chk_pos (by rw [dtrue (show (0 : Int) ≤ (i : Int) by omega)]; rfl),
    chk_pos (dtrue (by rw [Int.toNat_natCast, zs_bytesN, zs_len]; exact hi))]
  simp only [hget, hlow]
  obtain ⟨f1, f2, f3⟩ := hex_fact s[i].toNat (UInt8.toNat_lt _)
  have hb := UInt8.toNat_lt s[i]
  generalize hbn : s[i].toNat = b at *
  have hw16 : IntKind.u8.wrap 16 = 16 := by decide
  have hw64 : IntKind.u64.wrap 16 = 16 := by decide
  have hi1 : IntKind.i64.wrap ((i : Int) + 1) = ((i + 1 : Nat) : Int) := by rw [wrap_id (by omega) (by omega)]; omega
  -- a digit's value, if it is below 16
  have fit : ∀ d : Nat, d < 16 → ∀ z : Int, z = (d : Int) → (bif (decide (z ≥ (IntKind.u8.wrap 16))) then (e1 0 x22 false (v : Int)) else (bif (decide ((v : Int) ≥ 1152921504606846976)) then (e2 65535 x22 false (v : Int)) else (bif (decide ((IntKind.u64.wrap ((IntKind.u64.wrap ((v : Int) * (IntKind.u64.wrap 16))) + (IntKind.u64.wrap z))) < (IntKind.u64.wrap ((v : Int) * (IntKind.u64.wrap 16))))) then (e2 65535 x22 false (IntKind.u64.wrap ((v : Int) * (IntKind.u64.wrap 16)))) else (bif (decide ((IntKind.u64.wrap ((IntKind.u64.wrap ((v : Int) * (IntKind.u64.wrap 16))) + (IntKind.u64.wrap z))) > 65535)) then (e2 65535 x22 false (IntKind.u64.wrap ((v : Int) * (IntKind.u64.wrap 16)))) else (rec' 16 false x22 1152921504606846976 65535 false (IntKind.u64.wrap ((IntKind.u64.wrap ((v : Int) * (IntKind.u64.wrap 16))) + (IntKind.u64.wrap z))) s.length (s.length : Int) (IntKind.i64.wrap ((i : Int) + 1)) (bytesN s)))))) =
      rec' 16 false x22 1152921504606846976 65535 false ((16 * v + d : Nat) : Int) s.length (s.length : Int) ((i + 1 : Nat) : Int) (bytesN s) := by
    intro d hd z hz
    subst hz
    have k1 : IntKind.u64.wrap ((v : Int) * 16) = (v : Int) * 16 := u64w (by omega) (by omega)
    have k2 : IntKind.u64.wrap (d : Int) = d := u64w (by omega) (by omega)
    have k3 : IntKind.u64.wrap ((v : Int) * 16 + (d : Int)) = (v : Int) * 16 + (d : Int) := u64w (by omega) (by omega)
    rw [hw16, hw64, k1, k2, k3, hi1, dfalse (show ¬ (d : Int) ≥ 16 by omega), cond_false, dfalse (show ¬ (v : Int) ≥ 1152921504606846976 by omega), cond_false, dfalse (show ¬ (v : Int) * 16 + (d : Int) < (v : Int) * 16 by omega), cond_false,
      dfalse (show ¬ (v : Int) * 16 + (d : Int) > 65535 by omega), cond_false]
    have : (v : Int) * 16 + (d : Int) = ((16 * v + d : Nat) : Int) := by omega
    rw [this]
  rw [cond_false, Bool.cond_self]
  unfold hexv
  simp only [hbn]
  by_cases h1 : 48 ≤ b ∧ b ≤ 57
  · rw [dtrue (show (48 : Int) ≤ (b : Int) by omega), cond_true, dtrue (show (b : Int) ≤ 57 by omega), cond_true, if_pos h1]
    exact fit (b - 48) (by omega) _ (f1 h1)
  · rw [if_neg h1]
    have h48 : ∀ x z : Option R, (bif (decide ((48 : Int) ≤ (b : Int))) then (bif (decide ((b : Int) ≤ (57 : Int))) then x else z) else z) = z := by
      intro x z
      by_cases h : (48 : Int) ≤ (b : Int)
      · rw [dtrue h, cond_true, dfalse (show ¬ (b : Int) ≤ 57 by omega), cond_false]
      · rw [dfalse h, cond_false]
    simp only [cond_false]
    rw [h48]
    by_cases h2 : (97 : Int) ≤ lowI b
    · rw [dtrue h2, cond_true]
      by_cases h3 : lowI b ≤ 122
      · rw [dtrue h3, cond_true]
        obtain ⟨_, _, g1, g2, g3⟩ := f2 h2 h3
        rw [g1]
        by_cases h4 : lowI b - 87 < 16
        · rcases g2 h4 with ⟨q1, q2⟩ | ⟨q1, q2⟩
          · rw [if_pos q1]
            exact fit (b - 55) (by omega) _ q2
          · rw [if_neg (by omega), if_pos q1]
            exact fit (b - 87) (by omega) _ q2
        · obtain ⟨q1, q2⟩ := g3 (by omega)
          rw [hw16, dtrue (show lowI b - 87 ≥ 16 by omega), cond_true, if_neg q1, if_neg q2]
      · rw [dfalse h3, cond_false]
        obtain ⟨q1, q2⟩ := f3 (by omega)
        rw [if_neg q1, if_neg q2]
    · rw [dfalse h2, cond_false]
      obtain ⟨q1, q2⟩ := f3 (by omega)
      rw [if_neg q1, if_neg q2]

theorem hexN_step (s : Str) (i v : Nat) (hi : i < s.length) : hexN (s.drop i) v = match hexv s[i] with | some d => hexN (s.drop (i + 1)) (16 * v + d) | none => none := by
  rw [List.drop_eq_getElem_cons hi]
  rfl

theorem uint_loop {R : Type} {s x22 : Str} (hs : s.length ≤ 4) (e0 : Str → Bool → Int → Option R) (e1 e2 : Int → Str → Bool → Int → Option R) (e3 : Int → Str → Bool → Option R) : ∀ (n i v : Nat), s.length - i < n → i ≤ s.length → v < 16 ^ i →
    (match hexN (s.drop i) v with
     | some u => internal_strconv_ParseUint_36_0_L n 16 false x22 1152921504606846976 65535 false (v : Int) s.length (s.length : Int) (i : Int) (bytesN s) e0 e1 e2 e3 = e0 x22 false (u : Int)
     | none => ∃ w, internal_strconv_ParseUint_36_0_L n 16 false x22 1152921504606846976 65535 false (v : Int) s.length (s.length : Int) (i : Int) (bytesN s) e0 e1 e2 e3 = e1 0 x22 false w) := by
  intro n
  induction n with
  | zero => intro i v h; omega
  | succ n ih =>
    intro i v h hi hv
    by_cases hlt : i < s.length
    · have hv2 : v < 4096 := by
        have : 16 ^ i ≤ 16 ^ 3 := Nat.pow_le_pow_right (by omega) (by omega)
        have e : (16 : Nat) ^ 3 = 4096 := rfl
        omega
      have hr := uint_round (R := R) (x22 := x22) hlt (by omega) hv2 (fun x0' x1' x2' x3' x4' x5' x6' x7' x8' x9' x10' => internal_strconv_ParseUint_36_0_L n x0' x1' x2' x3' x4' x5' x6' x7' x8' x9' x10' e0 e1 e2 e3) e0 e1 e2 e3
      have hL : internal_strconv_ParseUint_36_0_L (n + 1) 16 false x22 1152921504606846976 65535 false (v : Int) s.length (s.length : Int) (i : Int) (bytesN s) e0 e1 e2 e3 =
        internal_strconv_ParseUint_36_0_B internal_strconv_lower (fun x0' x1' x2' x3' x4' x5' x6' x7' x8' x9' x10' => internal_strconv_ParseUint_36_0_L n x0' x1' x2' x3' x4' x5' x6' x7' x8' x9' x10' e0 e1 e2 e3) 16 false x22 1152921504606846976 65535 false (v : Int) s.length (s.length : Int) (i : Int) (bytesN s) e0 e1 e2 e3 := rfl
      rw [hL, hr, hexN_step s i v hlt]
      cases hx : hexv s[i] with
      | none => exact ⟨_, rfl⟩
      | some d =>
        have hd := hexv_lt hx
        have : (16 : Nat) ^ (i + 1) = 16 ^ i * 16 := Nat.pow_succ ..
        exact ih (i + 1) (16 * v + d) (by omega) (by omega) (by omega)
    · have e : s.drop i = [] := List.drop_eq_nil_of_le (by omega)
      rw [e]
      simp only [hexN]
      show internal_strconv_ParseUint_36_0_B internal_strconv_lower _ 16 false x22 1152921504606846976 65535 false (v : Int) s.length (s.length : Int) (i : Int) (bytesN s) e0 e1 e2 e3 = _
      unfold internal_strconv_ParseUint_36_0_B
      rw [dfalse (show ¬ (i : Int) < (s.length : Int) by omega), cond_false]

end Go.Proofs.YtmlkkgfenfdndaaDoor

set_option linter.unusedVariables false
set_option maxRecDepth 100000
namespace Go.Proofs.YtmlkkgfenfdndaaDoor
open Go Go.Yard Go.Lib

theorem parse4 {R : Type} {s : Str} (hs : s.length = 4) (k0 k1 : Int → Option R) : strconv_ParseUint s 16 16 k0 k1 = match hexN s 0 with | some u => k1 (u : Int) | none => k0 0 := by
  show strconv_ParseUint_X internal_strconv_ParseUint s 16 16 k0 k1 = _
  unfold strconv_ParseUint_X
  show internal_strconv_ParseUint_X internal_strconv_lower internal_strconv_underscoreOK internal_strconv_ParseUint_36_0_L s 16 16 _ _ _ _ _ = _
  unfold internal_strconv_ParseUint_X
  have h1 : (s == ([] : Str)) = false := by rw [beq_eq_false_iff_ne]; rintro rfl; simp at hs
  rw [h1, cond_false]
  have c1 : decide ((2 : Int) ≤ 16) = true := by decide
  have c2 : decide ((16 : Int) ≤ 36) = true := by decide
  have c3 : ((16 : Int) == 0) = false := by decide
  have c4 : decide ((16 : Int) < 0) = false := by decide
  have c5 : decide ((16 : Int) > 64) = false := by decide
  have c6 : ((16 : Int) == 10) = false := by decide
  have c7 : ((16 : Int) == 16) = true := by decide
  have c8 : decide ((0 : Int) ≤ IntKind.u64.wrap 16) = true := by decide
  have c9 : (IntKind.u64.wrap ((IntKind.u64.wrap (1 * 2 ^ (min ((IntKind.u64.wrap 16).toNat) IntKind.u64.bits))) - 1)) = 65535 := by decide +kernel
  dsimp only
  rw [c1, cond_true, c2, cond_true, c3, cond_false, c4, cond_false, c5, cond_false, c6, cond_false, c7, cond_true]
  rw [c8, chk_pos rfl, c9]
  have hb : decide (s.length ≤ 281474976710656) = true := dtrue (by omega)
  have key := fun (n : Nat) (hn : 4 < n) (e0 : Str → Bool → Int → Option R) (e1 e2 : Int → Str → Bool → Int → Option R) (e3 : Int → Str → Bool → Option R) => uint_loop (R := R) (s := s) (x22 := s) (by omega) e0 e1 e2 e3 n 0 0 (by omega) (by omega) (by omega)
  have z0 : (((0 : Nat) : Int)) = 0 := rfl
  simp only [List.drop_zero, z0] at key
  cases hx : hexN s 0 with
  | some u =>
    simp only [hx] at key
    rw [key _ (by omega)]
    rfl
  | none =>
    simp only [hx] at key
    generalize hF : (Int.natAbs 16 + List.length s + Int.natAbs 1152921504606846976 + Int.natAbs 65535 + Int.natAbs 0 + Int.natAbs (s.length : Int) + Int.natAbs 0 + List.length (bytesN s) + 64) = F at *
    obtain ⟨w, hw⟩ := key F (by rw [← hF]; omega) _ _ _ _
    rw [hw, chk_pos (by rfl), hb, chk_pos rfl]
end Go.Proofs.YtmlkkgfenfdndaaDoor

set_option linter.unusedVariables false
set_option maxRecDepth 100000
namespace Go.Proofs.YtmlkkgfenfdndaaDoor
open Go Go.Yard Go.Lib

theorem hexN_bound : ∀ (l : Str) (v u : Nat), hexN l v = some u → u < (v + 1) * 16 ^ l.length
  | [], v, u, h => by cases h; simp
  | b :: t, v, u, h => by
    simp only [hexN] at h
    cases hx : hexv b with
    | none => rw [hx] at h; cases h
    | some d =>
      rw [hx] at h
      have h1 := hexN_bound t _ _ h
      have hd := hexv_lt hx
      have h2 : (16 * v + d + 1) * 16 ^ t.length ≤ ((v + 1) * 16) * 16 ^ t.length := Nat.mul_le_mul_right _ (by omega)
      rw [List.length_cons, Nat.pow_succ]
      have h3 : (v + 1) * 16 * 16 ^ t.length = (v + 1) * (16 ^ t.length * 16) := by rw [Nat.mul_assoc, Nat.mul_comm 16]
      omega
theorem hexN_all : ∀ (l : Str) (v u : Nat), hexN l v = some u → ∀ b ∈ l, (hexv b).isSome = true
  | [], v, u, h => by simp
  | b :: t, v, u, h => by
    simp only [hexN] at h
    cases hx : hexv b with
    | none => rw [hx] at h; cases h
    | some d =>
      rw [hx] at h
      intro c hc
      rcases List.mem_cons.1 hc with rfl | hc
      · rw [hx]; rfl
      · exact hexN_all t _ _ h c hc
theorem hexv_asc {b : UInt8} (h : (hexv b).isSome = true) : b.toNat < 128 ∧ b.toNat ≠ 43 ∧ b.toNat ≠ 45 ∧ b.toNat ≠ 95 := by
  unfold hexv at h
  simp only at h
  revert h
  (repeat' split) <;> intro h <;> first | omega | cases h

theorem hasAny_none (cs : Str) : ∀ s : Str, (∀ b ∈ s, cs.contains b = false) → hasAny s cs = false := by
  have key : ∀ s : Str, (∀ b ∈ s, cs.contains b = false) → indexAny s cs = -1 := by
    intro s
    induction s with
    | nil => intro _; rfl
    | cons b s ih =>
      intro h
      unfold indexAny
      rw [h b (by simp)]
      have := ih fun x hx => h x (by simp [hx])
      simp [this]
  intro s h
  unfold hasAny containsAny
  rw [key s h]
  rfl

def unitP (s : Str) : Option (Nat × Str) := if s.length < 4 then none else match hexN (s.take 4) 0 with | some v => some (v, s.drop 4) | none => none
theorem unitP_lt {s r : Str} {v : Nat} (h : unitP s = some (v, r)) : v < 65536 ∧ 4 ≤ s.length ∧ r = s.drop 4 := by
  unfold unitP at h
  split at h
  · cases h
  · rename_i hl
    split at h
    · rename_i u hu
      cases h
      have := hexN_bound _ _ _ hu
      rw [List.length_take, Nat.min_eq_left (by omega)] at this
      exact ⟨by omega, by omega, rfl⟩
    · cases h

theorem wrap32s {n : Nat} (h : n < 1114112) : IntKind.i32.wrap (n : Int) = (n : Int) := wrap32_id (by omega) (by omega)

theorem unit_ok {R : Type} (s : Str) (hs : s.length ≤ 9000000000000000000) (k : Int → Str → Option R) :
    quote_reader_unit_abbd s k = match unitP s with | some (v, r) => k (v : Int) r | none => k (-1) s := by
  show quote_reader_unit_abbd_X strconv_ParseUint s k = _
  unfold quote_reader_unit_abbd_X
  by_cases hl : s.length < 4
  · rw [dtrue (show (s.length : Int) < 4 by omega), cond_true]
    unfold unitP
    rw [if_pos hl]
  · rw [dfalse (show ¬ (s.length : Int) < 4 by omega), cond_false, chk_pos (dtrue (by omega))]
    have h4 : (s.drop 0).take (4 - 0) = s.take 4 := rfl
    rw [h4, parse4 (by rw [List.length_take]; omega)]
    unfold unitP
    rw [if_neg hl]
    cases hu : hexN (s.take 4) 0 with
    | none => rfl
    | some v =>
      have hall := hexN_all _ _ _ hu
      have hasc : isAsc (s.take 4) = true := List.all_eq_true.2 fun b hb => dtrue (hexv_asc (hall b hb)).1
      have hno : hasAny (s.take 4) [43, 45, 95] = false := hasAny_none _ _ fun b hb => by
        obtain ⟨_, g1, g2, g3⟩ := hexv_asc (hall b hb)
        have e : ∀ x : UInt8, b.toNat ≠ x.toNat → (b == x) = false := fun x hx => by
          rw [beq_eq_false_iff_ne]; rintro rfl; exact hx rfl
        simp only [List.contains_cons, List.contains_nil, e 43 g1, e 45 g2, e 95 g3]
        rfl
      have hv := (unitP_lt (s := s) (r := s.drop 4) (v := v) (by unfold unitP; rw [if_neg hl, hu])).1
      have hb2 : isAsc ([43, 45, 95] : Str) = true := by decide
      simp only
      rw [chk_pos (by rw [hasc, hb2, dtrue (show (s.take 4).length < 4294967281 by rw [List.length_take]; omega)]; rfl), hno, cond_false, chk_pos (by rw [dtrue (show (0 : Int) ≤ (s.length : Int) by omega), dtrue (show (s.length : Int) ≤ s.length by omega)]; rfl), chk_pos (dtrue (by omega))]
      rw [wrap32s (by omega), Int.toNat_natCast, List.take_of_length_le (by rw [List.length_drop]; exact Nat.le_refl _)]

def longP (s : Str) : Option (Nat × Str) :=
  match unitP s with
  | none => none
  | some (v, r) =>
    if v < 55296 ∨ 57344 ≤ v then some (v, r) else if 56320 ≤ v then none
    else if ([92, 117] : Str).isPrefixOf r then
      match unitP (r.drop 2) with
      | none => none
      | some (w, r2) => if 56320 ≤ w ∧ w < 57344 then some (65536 + (v - 55296) * 1024 + (w - 56320), r2) else none
    else none

theorem shl10 (n : Nat) (h : n < 1024) : IntKind.i32.wrap ((n : Int) * 2 ^ (min 10 IntKind.i32.bits)) = ((n * 1024 : Nat) : Int) := by
  have e : (n : Int) * 2 ^ (min 10 IntKind.i32.bits) = ((n * 1024 : Nat) : Int) := by
    show (n : Int) * 2 ^ 10 = _
    omega
  rw [e, wrap32s (by omega)]

theorem long_ok {R : Type} (s : Str) (hs : s.length ≤ 9000000000000000000) (k : Int → Str → Option R) :
    match longP s with | some (c, r) => quote_reader_long_abbd s k = k (c : Int) r | none => ∃ r, quote_reader_long_abbd s k = k (-1) r := by
  have e0 : quote_reader_long_abbd s k = quote_reader_long_abbd_X quote_reader_skip_e74a quote_reader_unit_abbd s k := rfl
  rw [e0]
  unfold quote_reader_long_abbd_X
  rw [unit_ok s hs]
  unfold longP
  cases hu : unitP s with
  | none =>
    simp only
    exact ⟨s, by rw [dtrue (show (-1 : Int) < 55296 by omega), cond_true]⟩
  | some p =>
    obtain ⟨v, r⟩ := p
    obtain ⟨hv, hl, hr⟩ := unitP_lt hu
    have hrl : r.length ≤ 9000000000000000000 := by rw [hr, List.length_drop]; omega
    simp only
    by_cases h1 : v < 55296
    · rw [if_pos (.inl h1), dtrue (show (v : Int) < 55296 by omega)]
      simp only [cond_true]
    rw [dfalse (show ¬ (v : Int) < 55296 by omega), cond_false]
    by_cases h2 : 57344 ≤ v
    · rw [if_pos (.inr h2), dtrue (show (v : Int) ≥ 57344 by omega)]
      simp only [cond_true]
    rw [if_neg (by omega), dfalse (show ¬ (v : Int) ≥ 57344 by omega), cond_false]
    by_cases h3 : 56320 ≤ v
    · rw [if_pos h3]
      exact ⟨r, by rw [dtrue (show (v : Int) ≥ 56320 by omega), cond_true]⟩
    rw [if_neg h3, dfalse (show ¬ (v : Int) ≥ 56320 by omega), cond_false, skip_ok _ _ (by simp) hrl]
    cases hp : ([92, 117] : Str).isPrefixOf r with
    | false =>
      simp only [Bool.false_eq_true, if_false]
      exact ⟨r, rfl⟩
    | true =>
      simp only [if_true]
      have hrl2 : (r.drop 2).length ≤ 9000000000000000000 := by rw [List.length_drop]; omega
      have e2 : r.drop ([92, 117] : Str).length = r.drop 2 := rfl
      rw [Bool.not_true, cond_false, e2, unit_ok _ hrl2]
      cases hu2 : unitP (r.drop 2) with
      | none =>
        simp only
        exact ⟨r.drop 2, by rw [dtrue (show (-1 : Int) < 56320 by omega), cond_true]⟩
      | some q =>
        obtain ⟨w, r2⟩ := q
        obtain ⟨hw, hl2, hr2⟩ := unitP_lt hu2
        simp only
        by_cases h4 : 56320 ≤ w ∧ w < 57344
        · rw [if_pos h4]
          simp only
          rw [dfalse (show ¬ (w : Int) < 56320 by omega), cond_false, dfalse (show ¬ (w : Int) ≥ 57344 by omega), cond_false]
          have k1 : IntKind.i32.wrap ((v : Int) - 55296) = ((v - 55296 : Nat) : Int) := by
            have : (v : Int) - 55296 = ((v - 55296 : Nat) : Int) := by omega
            rw [this, wrap32s (by omega)]
          rw [k1, shl10 _ (by omega)]
          have k2 : IntKind.i32.wrap (65536 + (((v - 55296) * 1024 : Nat) : Int)) = ((65536 + (v - 55296) * 1024 : Nat) : Int) := by
            have : 65536 + (((v - 55296) * 1024 : Nat) : Int) = ((65536 + (v - 55296) * 1024 : Nat) : Int) := by omega
            rw [this, wrap32s (by omega)]
          have k3 : IntKind.i32.wrap (((65536 + (v - 55296) * 1024 : Nat) : Int) + (w : Int)) = ((65536 + (v - 55296) * 1024 + w : Nat) : Int) := by
            have : ((65536 + (v - 55296) * 1024 : Nat) : Int) + (w : Int) = ((65536 + (v - 55296) * 1024 + w : Nat) : Int) := by omega
            rw [this]
            simp only [IntKind.wrap, IntKind.bits, IntKind.signed]
            simp
            omega
          have k4 : IntKind.i32.wrap (((65536 + (v - 55296) * 1024 + w : Nat) : Int) - 56320) = ((65536 + (v - 55296) * 1024 + (w - 56320) : Nat) : Int) := by
            have : ((65536 + (v - 55296) * 1024 + w : Nat) : Int) - 56320 = ((65536 + (v - 55296) * 1024 + (w - 56320) : Nat) : Int) := by omega
            rw [this, wrap32s (by omega)]
          rw [k2, k3, k4]
        · rw [if_neg h4]
          refine ⟨r2, ?_⟩
          by_cases h5 : w < 56320
          · rw [dtrue (show (w : Int) < 56320 by omega), cond_true]
          · rw [dfalse (show ¬ (w : Int) < 56320 by omega), cond_false, dtrue (show (w : Int) ≥ 57344 by omega), cond_true]

def escP : Str → Option (Nat × Str)
  | [] => none
  | b :: t =>
    if b.toNat = 34 ∨ b.toNat = 92 ∨ b.toNat = 47 then some (b.toNat, t) else if b.toNat = 98 then some (8, t) else if b.toNat = 102 then some (12, t) else if b.toNat = 110 then some (10, t)
    else if b.toNat = 114 then some (13, t) else if b.toNat = 116 then some (9, t) else if b.toNat = 117 then longP t else none

theorem esc_ok {R : Type} (s : Str) (hs : s.length ≤ 9000000000000000000) (k : Int → Str → Option R) :
    match escP s with | some (c, r) => quote_reader_escaped_abbd s k = k (c : Int) r | none => ∃ r, quote_reader_escaped_abbd s k = k (-1) r := by
  have e0 : quote_reader_escaped_abbd s k = quote_reader_escaped_abbd_X quote_reader_long_abbd s k := rfl
  rw [e0]
  unfold quote_reader_escaped_abbd_X
  cases s with
  | nil => exact ⟨[], rfl⟩
  | cons b t =>
    have hne : ((b :: t : Str) == ([] : Str)) = false := rfl
    simp only [List.length_cons] at hs
    have ht : (((b :: t : Str).drop 1).take (((b :: t : Str).length : Int).toNat - 1)) = t := by
      rw [Int.toNat_natCast, List.drop_succ_cons, List.drop_zero, List.length_cons, Nat.add_sub_cancel, List.take_length]
    have hg : ((b :: t : Str).getD 0 0).toNat = b.toNat := rfl
    rw [hne, cond_false, chk_pos (dtrue (show (0 : Int) < ((b :: t : Str).length : Int) by simp only [List.length_cons]; omega)),
      chk_pos (by rw [dtrue (show (0 : Int) ≤ ((b :: t : Str).length : Int) by omega), dtrue (show ((b :: t : Str).length : Int) ≤ (b :: t : Str).length by omega)]; rfl),
      chk_pos (dtrue (show (1 : Int) ≤ ((b :: t : Str).length : Int) by simp only [List.length_cons]; omega))]
    simp only [ht, hg]
    have hb := UInt8.toNat_lt b
    simp only [escP]
    generalize b.toNat = n at *
    have q : ∀ m : Nat, ((n : Int) == (m : Int)) = decide (n = m) := fun m => by
      by_cases h : n = m
      · subst h; simp
      · have : ¬ ((n : Int) = (m : Int)) := by omega
        simp [h, this]
    have q34 : ((n : Int) == 34) = decide (n = 34) := q 34
    have q92 : ((n : Int) == 92) = decide (n = 92) := q 92
    have q47 : ((n : Int) == 47) = decide (n = 47) := q 47
    have q98 : ((n : Int) == 98) = decide (n = 98) := q 98
    have q102 : ((n : Int) == 102) = decide (n = 102) := q 102
    have q110 : ((n : Int) == 110) = decide (n = 110) := q 110
    have q114 : ((n : Int) == 114) = decide (n = 114) := q 114
    have q116 : ((n : Int) == 116) = decide (n = 116) := q 116
    have q117 : ((n : Int) == 117) = decide (n = 117) := q 117
    simp only [q34, q92, q47, q98, q102, q110, q114, q116, q117, wrap32s (show n < 1114112 by omega)]
    by_cases h34 : n = 34
    · subst h34; simp
    by_cases h92 : n = 92
    · subst h92; simp
    by_cases h47 : n = 47
    · subst h47; simp
    simp only [h34, h92, h47, decide_false, cond_false, or_self, if_false]
    by_cases h98 : n = 98
    · subst h98; simp
    by_cases h102 : n = 102
    · subst h102; simp
    by_cases h110 : n = 110
    · subst h110; simp
    by_cases h114 : n = 114
    · subst h114; simp
    by_cases h116 : n = 116
    · subst h116; simp
    by_cases h117 : n = 117
    · subst h117
      have := long_ok (R := R) t (by omega) k
      simp only [decide_true, decide_false, cond_true, cond_false, if_true, show ¬ ((117 : Nat) = 98) by decide, show ¬ ((117 : Nat) = 102) by decide, show ¬ ((117 : Nat) = 110) by decide, show ¬ ((117 : Nat) = 114) by decide, show ¬ ((117 : Nat) = 116) by decide, if_false]
      exact this
    simp only [h98, h102, h110, h114, h116, h117, decide_false, cond_false, if_false]
    exact ⟨t, rfl⟩
end Go.Proofs.YtmlkkgfenfdndaaDoor


set_option linter.unusedVariables false
set_option maxRecDepth 100000
namespace Go.Proofs.YtmlkkgfenfdndaaDoor
open Go Go.Yard Go.Lib

end Go.Proofs.YtmlkkgfenfdndaaDoor

set_option linter.unusedVariables false
set_option maxRecDepth 100000
namespace Go.Proofs.YtmlkkgfenfdndaaDoor
open Go Go.Yard Go.Lib

def stepU (s : Str) : Option (Nat × Str) := if ([92] : Str).isPrefixOf s then escP (s.drop 1) else plainP s
def uq : Nat → Str → Str → Option (Str × Str)
  | 0, _, _ => none
  | n + 1, s, o => if ([34] : Str).isPrefixOf s then some (o, s.drop 1) else match stepU s with | none => none | some (c, r) => uq n r (o ++ enc c)

theorem longP_ok {s r : Str} {c : Nat} (h : longP s = some (c, r)) : vr c ∧ r.length + 4 ≤ s.length := by
  unfold longP at h
  split at h
  · cases h
  · rename_i v r1 hu
    obtain ⟨hv, hl, hr⟩ := unitP_lt hu
    split at h
    · cases h
      refine ⟨by unfold vr; omega, ?_⟩
      rw [hr, List.length_drop]; omega
    · split at h
      · cases h
      · split at h
        · split at h
          · cases h
          · rename_i w r2 hu2
            obtain ⟨hw, hl2, hr2⟩ := unitP_lt hu2
            split at h
            · simp only [Option.some.injEq, Prod.mk.injEq] at h
              obtain ⟨hc, rfl⟩ := h
              refine ⟨by unfold vr; omega, ?_⟩
              rw [hr2, hr]
              simp only [List.length_drop]
              rw [hr] at hl2
              simp only [List.length_drop] at hl2
              omega
            · cases h
        · cases h

theorem escP_ok {s r : Str} {c : Nat} (h : escP s = some (c, r)) : vr c ∧ r.length < s.length := by
  cases s with
  | nil => cases h
  | cons b t =>
    simp only [escP] at h
    have hb := UInt8.toNat_lt b
    split at h
    · cases h; exact ⟨by unfold vr; omega, by simp⟩
    split at h
    · cases h; exact ⟨by unfold vr; omega, by simp⟩
    split at h
    · cases h; exact ⟨by unfold vr; omega, by simp⟩
    split at h
    · cases h; exact ⟨by unfold vr; omega, by simp⟩
    split at h
    · cases h; exact ⟨by unfold vr; omega, by simp⟩
    split at h
    · cases h; exact ⟨by unfold vr; omega, by simp⟩
    split at h
    · obtain ⟨h1, h2⟩ := longP_ok h
      exact ⟨h1, by simp only [List.length_cons]; omega⟩
    · cases h

theorem plainP_ok {s r : Str} {c : Nat} (h : plainP s = some (c, r)) : vr c ∧ r.length < s.length := by
  unfold plainP at h
  split at h
  · cases h
  · rename_i hne
    split at h
    · cases h
    · split at h
      · cases h
      · cases h
        have h1 := decodeL_width s
        have h2 : 0 < s.length := List.length_pos_iff.2 hne
        exact ⟨dec_vr s, by rw [List.length_drop]; omega⟩

theorem stepU_ok {s r : Str} {c : Nat} (h : stepU s = some (c, r)) : vr c ∧ r.length < s.length := by
  unfold stepU at h
  split at h
  · obtain ⟨h1, h2⟩ := escP_ok h
    exact ⟨h1, by rw [List.length_drop] at h2; omega⟩
  · exact plainP_ok h

theorem uq_fuel : ∀ (n m : Nat) (s o : Str), s.length < n → s.length < m → uq n s o = uq m s o
  | 0, _, _, _, h, _ => by omega
  | _ + 1, 0, _, _, _, h => by omega
  | n + 1, m + 1, s, o, hn, hm => by
    unfold uq
    split
    · rfl
    · cases hs : stepU s with
      | none => rfl
      | some p =>
        obtain ⟨c, r⟩ := p
        obtain ⟨_, h2⟩ := stepU_ok hs
        exact uq_fuel n m r _ (by omega) (by omega)

theorem unq_loop {R : Type} (x : Str) (e0 : Str → Str → List Int → Option R) (e1 : Str → Str → Int → Bool → Str → List Int → Option R) : ∀ (n : Nat) (s o : Str), s.length < n → o.length + 4 * s.length ≤ 90000000000 →
    (match uq n s o with
     | some (o', r) => quote_Unquote_5_0_L n x s (zs o) e0 e1 = e0 x r (zs o')
     | none => ∃ a b, quote_Unquote_5_0_L n x s (zs o) e0 e1 = e1 x [] 0 false a b) := by
  intro n
  induction n with
  | zero => intro s o h; omega
  | succ n ih =>
    intro s o h hb
    have hL : quote_Unquote_5_0_L (n + 1) x s (zs o) e0 e1 = quote_Unquote_5_0_B strings_Builder_WriteRune_dc6e quote_reader_skip_e74a quote_reader_plain_abbd quote_reader_escaped_abbd (fun x0' x1' x2' => quote_Unquote_5_0_L n x0' x1' x2' e0 e1) x s (zs o) e0 e1 := rfl
    rw [hL]
    unfold quote_Unquote_5_0_B
    rw [skip_ok _ _ (by simp) (by omega)]
    simp only [uq]
    have hlim : Lim o := by unfold Lim; omega
    by_cases h34 : ([34] : Str).isPrefixOf s = true
    · rw [if_pos h34, if_pos h34]
      rfl
    · rw [if_neg h34, if_neg h34, Bool.not_false, cond_true, skip_ok _ _ (by simp) (by omega)]
      have fin : ∀ (c : Nat) (r : Str), vr c → r.length < s.length →
          (match uq n r (o ++ enc c) with
           | some (o', r') => quote_Unquote_5_0_L n x r (zs (o ++ enc c)) e0 e1 = e0 x r' (zs o')
           | none => ∃ a b, quote_Unquote_5_0_L n x r (zs (o ++ enc c)) e0 e1 = e1 x [] 0 false a b) := fun c r hv hr => by
        have := enc_len hv
        exact ih r (o ++ enc c) (by omega) (by rw [List.length_append]; omega)
      unfold stepU
      by_cases h92 : ([92] : Str).isPrefixOf s = true
      · rw [if_pos h92, if_pos h92]
        have e1' : s.drop ([92] : Str).length = s.drop 1 := rfl
        rw [e1', cond_true]
        have hk := esc_ok (R := R) (s.drop 1) (by rw [List.length_drop]; omega) (fun y11 y12 => bif (decide (y11 < (0 : Int))) then (e1 x ([] : Str) 0 false y12 (zs o)) else (strings_Builder_WriteRune_dc6e y11 (zs o) (fun y13 y14 => quote_Unquote_5_0_L n x y12 y14 e0 e1)))
        cases he : escP (s.drop 1) with
        | none =>
          rw [he] at hk
          obtain ⟨r, hk⟩ := hk
          exact ⟨r, zs o, hk.trans (by rw [dtrue (show (-1 : Int) < 0 by omega), cond_true])⟩
        | some p =>
          obtain ⟨c, r⟩ := p
          rw [he] at hk
          obtain ⟨hv, hr⟩ := escP_ok he
          rw [List.length_drop] at hr
          simp only at hk ⊢
          rw [hk, dfalse (show ¬ (c : Int) < 0 by omega), cond_false]
          obtain ⟨q, hq⟩ := wr hv o hlim (fun y13 y14 => quote_Unquote_5_0_L n x r y14 e0 e1)
          rw [hq]
          exact fin c r hv (by omega)
      · rw [if_neg h92, if_neg h92, cond_false]
        have hk := plain_ok (R := R) s (by omega) (fun y15 y16 => bif (decide (y15 < (0 : Int))) then (e1 x ([] : Str) 0 false y16 (zs o)) else (strings_Builder_WriteRune_dc6e y15 (zs o) (fun y17 y18 => quote_Unquote_5_0_L n x y16 y18 e0 e1)))
        cases he : plainP s with
        | none =>
          rw [he] at hk
          simp only at hk ⊢
          exact ⟨s, zs o, hk.trans (by rw [dtrue (show (-1 : Int) < 0 by omega), cond_true])⟩
        | some p =>
          obtain ⟨c, r⟩ := p
          rw [he] at hk
          obtain ⟨hv, hr⟩ := plainP_ok he
          simp only at hk ⊢
          rw [hk, dfalse (show ¬ (c : Int) < 0 by omega), cond_false]
          obtain ⟨q, hq⟩ := wr hv o hlim (fun y17 y18 => quote_Unquote_5_0_L n x r y18 e0 e1)
          rw [hq]
          exact fin c r hv (by omega)

def uqS (s : Str) : Option (Str × Str) := if ([34] : Str).isPrefixOf s then uq (s.length + 1) (s.drop 1) [] else none

theorem unquote_ok {R : Type} (s : Str) (hs : s.length ≤ 20000000000) (k : Str → Int → Bool → Option R) :
    quote_Unquote s k = match uqS s with | some (o, r) => k o (IntKind.i64.wrap ((s.length : Int) - (r.length : Int))) true | none => k [] 0 false := by
  have e : quote_Unquote s k = quote_Unquote_X quote_reader_skip_e74a quote_Unquote_5_0_L s k := rfl
  rw [e]
  unfold quote_Unquote_X uqS
  rw [skip_ok _ _ (by simp) (by omega)]
  by_cases h34 : ([34] : Str).isPrefixOf s = true
  · rw [if_pos h34, if_pos h34, Bool.not_true, cond_false]
    have e1 : s.drop ([34] : Str).length = s.drop 1 := rfl
    rw [e1]
    have hd : (s.drop 1).length ≤ s.length := by rw [List.length_drop]; omega
    have key := unq_loop (R := R) s (fun y19 y20 y21 => k (bstr y21) (IntKind.i64.wrap ((y19.length : Int) - (y20.length : Int))) true) (fun y22 y23 y24 y25 y26 y27 => k y23 y24 y25) (List.length s + List.length (s.drop 1) + List.length ([] : List Int) + 64) (s.drop 1) [] (by omega) (by simp only [List.length_nil]; omega)
    rw [uq_fuel _ (s.length + 1) (s.drop 1) [] (by omega) (by omega)] at key
    cases hu : uq (s.length + 1) (s.drop 1) [] with
    | none =>
      rw [hu] at key
      obtain ⟨a, b, key⟩ := key
      exact key
    | some p =>
      obtain ⟨o, r⟩ := p
      rw [hu] at key
      simp only at key ⊢
      refine Eq.trans key ?_
      rw [bstr_zs]
  · rw [if_neg h34, if_neg h34]
    rfl

theorem pre_cons (a b : UInt8) (t : Str) : ([a] : Str).isPrefixOf (b :: t) = (a == b) := by
  simp [List.isPrefixOf]

theorem u8_ne {b : UInt8} {n : Nat} (hn : n < 256) (h : b.toNat ≠ n) : ((UInt8.ofNat n) == b) = false := by
  rw [beq_eq_false_iff_ne]
  rintro rfl
  rw [u8_nat n hn] at h
  exact h rfl

end Go.Proofs.YtmlkkgfenfdndaaDoor


set_option linter.unusedVariables false
set_option maxRecDepth 100000
namespace Go.Proofs.YtmlkkgfenfdndaaDoor
open Go Go.Yard Go.Lib

end Go.Proofs.YtmlkkgfenfdndaaDoor


set_option linter.unusedVariables false
set_option maxRecDepth 100000
namespace Go.Proofs.YtmlkkgfenfdndaaDoor
open Go Go.Yard Go.Lib

theorem shr64 (c n : Nat) (h : n ≤ 64) : Int.fdiv (c : Int) (2 ^ (min n IntKind.i64.bits)) = ((c / 2 ^ n : Nat) : Int) := by
  have e : min n IntKind.i64.bits = n := Nat.min_eq_left h
  rw [e, Int.fdiv_eq_ediv_of_nonneg _ (by exact Int.le_of_lt (Int.pow_pos (by omega)))]
  rw [Int.natCast_ediv]
  congr 1

end Go.Proofs.YtmlkkgfenfdndaaDoor

