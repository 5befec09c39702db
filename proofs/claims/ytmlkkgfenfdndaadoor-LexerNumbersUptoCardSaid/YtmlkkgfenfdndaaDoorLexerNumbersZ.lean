/-
  LexerNumbers: for every input whose bulk is at most 1048576 the law returns true, and each argument reads behind the call as it read before; part 8 of 8 of the proof: an interpreter of the model's code over typed data, proved sound; the functions that the law reaches, printed as Lean functions and tied; the plain law. Own texts laid one behind the other.
-/
import Derived.Lib.ItoaMem
import Derived.Test.YtmlkkgfenfdndaaDoorLexerNumbersB7
set_option linter.unusedSimpArgs false
set_option linter.unnecessarySimpa false
set_option linter.unusedVariables false
set_option linter.unusedSectionVars false
/-
  Functions of the program as pure Lean functions, and the ties; printed by wip/tools/emit.py.
-/
set_option maxRecDepth 100000
set_option linter.unusedVariables false
namespace Go.Proofs.YtmlkkgfenfdndaaDoor
open Go Go.Yard

/-! ### humpyard/decimal.Right -/
abbrev decimal_Right_ty (R : Type) : Type := Dcm → (Bool → Option R) → Option R
abbrev decimal_Right_p : List Pat := [.agg [.int .i64, .int .i64]]
abbrev decimal_Right_q : List HPat := []
noncomputable def decimal_Right_rr {R : Type} (fn : decimal_Right_ty R) : Pat.dens decimal_Right_p → HPat.dens decimal_Right_q → (V → Heap → Option R) → Option R := fun x y k => fn (⟨x.1.1, x.1.2.1⟩ : Dcm) (fun q0 => k (.bool q0) [])
noncomputable def decimal_Right_E (R : Type) (decimal_within_int : decimal_within_int_ty R) : Env R := fun i => match i with
  | 28 => some (true, (specBy decimal_within_int_p decimal_within_int_q (decimal_within_int_rr decimal_within_int) specNo))
  | _ => none
theorem decimal_Right_EOk (R : Type) : EOk Tryd.prog (decimal_Right_E R decimal_within_int) := by
  intro i b sp h
  unfold decimal_Right_E at h
  split at h
  · cases h; exact ⟨(decimal_within_int_S_ok R _ (specNo_ok _)), fun h => nomatch h⟩
  · cases h

noncomputable def decimal_Right_T (R : Type) : Nat → Option (Hint × LSpec R) := fun i => match i with
  | _ => none

noncomputable def decimal_Right_X {R : Type} (decimal_within_int : decimal_within_int_ty R) (x1 : Dcm) (k0 : Bool → Option R) : Option R :=
  bif (x1.mant == 0) then (k0 (x1.exp == 0)) else (bif ((Int.tmod x1.mant 10) != 0) then (decimal_within_int (-1000000000000000) x1.mant 1000000000000000 (fun y2 => bif y2 then (decimal_within_int (-9) x1.exp 9 (fun y3 => k0 y3)) else (k0 false))) else (k0 false))
noncomputable def decimal_Right {R : Type} : decimal_Right_ty R := fun x1 k0 => decimal_Right_X decimal_within_int x1 k0
theorem decimal_Right_ok {R : Type} (decimal_within_int : decimal_within_int_ty R) (x1 : Dcm) (k : V → Heap → Option R) : funK tt (decimal_Right_E R decimal_within_int) (decimal_Right_T R) false Tryd.f15 (codeOf Tryd.f15) [.agg [.int .i64 x1.mant, .int .i64 x1.exp]] [] k =
    decimal_Right_X decimal_within_int x1 (fun q0 => k (.bool q0) []) := by kernel_rfl
theorem decimal_Right_loops (R : Type) : ∀ a ∈ loopsOf (codeOf Tryd.f15), LoopOk tt (decimal_Right_E R decimal_within_int) (decimal_Right_T R) 0 a := by
  refine loops_ok 0 (by kernel_rfl) fun i hi => ?_
  omega
theorem decimal_Right_S_ok (R : Type) (other : Yard.Spec R) (ho : Yard.Spec.Ok Tryd.prog 15 other) : Yard.Spec.Ok Tryd.prog 15 (specBy decimal_Right_p decimal_Right_q (decimal_Right_rr decimal_Right) other) :=
  specBy_ok ho (funK_sound TT mixed (decimal_Right_EOk R) (keep := false) rfl rfl rfl rfl 0 (decimal_Right_loops R)) fun (x : Pat.dens decimal_Right_p) (y : HPat.dens decimal_Right_q) k => decimal_Right_ok decimal_within_int (⟨x.1.1, x.1.2.1⟩ : Dcm) k

/-! ### (*strings.Builder).WriteByte -/
abbrev strings_Builder_WriteByte_b66c_ty (R : Type) : Type := Int → ((List Int) → Option R) → Option R
abbrev strings_Builder_WriteByte_b66c_p : List Pat := [.leaf (.ptr 0 0), .leaf (.int .u8)]
abbrev strings_Builder_WriteByte_b66c_q : List HPat := [.bld (.nilsl)]
noncomputable def strings_Builder_WriteByte_b66c_rr {R : Type} (fn : strings_Builder_WriteByte_b66c_ty R) : Pat.dens strings_Builder_WriteByte_b66c_p → HPat.dens strings_Builder_WriteByte_b66c_q → (V → Heap → Option R) → Option R := fun x y k => fn x.2.1 (fun q0 => k (.niliface) [.bld (.sl (.int .u8) q0 (.own 1)), .tok])
noncomputable def strings_Builder_WriteByte_b66c_E (R : Type) : Env R := fun i => match i with
  | 29 => some (false, (bcc_S R))
  | _ => none
theorem strings_Builder_WriteByte_b66c_EOk (R : Type) : EOk Tryd.prog (strings_Builder_WriteByte_b66c_E R) := by
  intro i b sp h
  unfold strings_Builder_WriteByte_b66c_E at h
  split at h
  · cases h; exact ⟨(bcc_is), fun _ h => nomatch h⟩
  · cases h

noncomputable def strings_Builder_WriteByte_b66c_T (R : Type) : Nat → Option (Hint × LSpec R) := fun i => match i with
  | _ => none

noncomputable def strings_Builder_WriteByte_b66c_X {R : Type} (x1 : Int) (k0 : (List Int) → Option R) : Option R :=
  k0 ([x1] : List Int)
noncomputable def strings_Builder_WriteByte_b66c {R : Type} : strings_Builder_WriteByte_b66c_ty R := fun x1 k0 => strings_Builder_WriteByte_b66c_X x1 k0
theorem strings_Builder_WriteByte_b66c_ok {R : Type} (x1 : Int) (k : V → Heap → Option R) : funK tt (strings_Builder_WriteByte_b66c_E R) (strings_Builder_WriteByte_b66c_T R) false Tryd.f16 (codeOf Tryd.f16) [.ptr 0 0, .int .u8 x1] [.bld (.nilsl)] k =
    strings_Builder_WriteByte_b66c_X x1 (fun q0 => k (.niliface) [.bld (.sl (.int .u8) q0 (.own 1)), .tok]) := by kernel_rfl
theorem strings_Builder_WriteByte_b66c_loops (R : Type) : ∀ a ∈ loopsOf (codeOf Tryd.f16), LoopOk tt (strings_Builder_WriteByte_b66c_E R) (strings_Builder_WriteByte_b66c_T R) 1 a := by
  refine loops_ok 0 (by kernel_rfl) fun i hi => ?_
  omega
theorem strings_Builder_WriteByte_b66c_S_ok (R : Type) (other : Yard.Spec R) (ho : Yard.Spec.Ok Tryd.prog 16 other) : Yard.Spec.Ok Tryd.prog 16 (specBy strings_Builder_WriteByte_b66c_p strings_Builder_WriteByte_b66c_q (strings_Builder_WriteByte_b66c_rr strings_Builder_WriteByte_b66c) other) :=
  specBy_ok ho (funK_sound TT mixed (strings_Builder_WriteByte_b66c_EOk R) (keep := false) rfl rfl rfl rfl 1 (strings_Builder_WriteByte_b66c_loops R)) fun (x : Pat.dens strings_Builder_WriteByte_b66c_p) (y : HPat.dens strings_Builder_WriteByte_b66c_q) k => strings_Builder_WriteByte_b66c_ok x.2.1 k

/-! ### (*strings.Builder).WriteString -/
abbrev strings_Builder_WriteString_df1e_ty (R : Type) : Type := Str → (List Int) → (Int → (List Int) → Option R) → Option R
abbrev strings_Builder_WriteString_df1e_p : List Pat := [.leaf (.ptr 0 0), .leaf (.str)]
abbrev strings_Builder_WriteString_df1e_q : List HPat := [.bld (.slo (.int .u8) 1), .tok]
noncomputable def strings_Builder_WriteString_df1e_rr {R : Type} (fn : strings_Builder_WriteString_df1e_ty R) : Pat.dens strings_Builder_WriteString_df1e_p → HPat.dens strings_Builder_WriteString_df1e_q → (V → Heap → Option R) → Option R := fun x y k => fn x.2.1 y.1 (fun q0 q1 => k (.tuple [.int .i64 q0, .niliface]) [.bld (.sl (.int .u8) q1 (.own 2)), .dead, .tok])
noncomputable def strings_Builder_WriteString_df1e_E (R : Type) : Env R := fun i => match i with
  | 29 => some (false, (bcc_S R))
  | _ => none
theorem strings_Builder_WriteString_df1e_EOk (R : Type) : EOk Tryd.prog (strings_Builder_WriteString_df1e_E R) := by
  intro i b sp h
  unfold strings_Builder_WriteString_df1e_E at h
  split at h
  · cases h; exact ⟨(bcc_is), fun _ h => nomatch h⟩
  · cases h

noncomputable def strings_Builder_WriteString_df1e_T (R : Type) : Nat → Option (Hint × LSpec R) := fun i => match i with
  | _ => none

noncomputable def strings_Builder_WriteString_df1e_X {R : Type} (x1 : Str) (x2 : List Int) (k0 : Int → (List Int) → Option R) : Option R :=
  chk (decide ((x2.length + (bytesN x1).length) * 1 ≤ 140737488355328)) (k0 (x1.length : Int) ((x2 : List Int) ++ ((bytesN x1) : List Int)))
noncomputable def strings_Builder_WriteString_df1e {R : Type} : strings_Builder_WriteString_df1e_ty R := fun x1 x2 k0 => strings_Builder_WriteString_df1e_X x1 x2 k0
theorem strings_Builder_WriteString_df1e_ok {R : Type} (x1 : Str) (x2 : List Int) (k : V → Heap → Option R) : funK tt (strings_Builder_WriteString_df1e_E R) (strings_Builder_WriteString_df1e_T R) false Tryd.f18 (codeOf Tryd.f18) [.ptr 0 0, .str x1] [.bld (.sl (.int .u8) x2 (.own 1)), .tok] k =
    strings_Builder_WriteString_df1e_X x1 x2 (fun q0 q1 => k (.tuple [.int .i64 q0, .niliface]) [.bld (.sl (.int .u8) q1 (.own 2)), .dead, .tok]) := by kernel_rfl
theorem strings_Builder_WriteString_df1e_loops (R : Type) : ∀ a ∈ loopsOf (codeOf Tryd.f18), LoopOk tt (strings_Builder_WriteString_df1e_E R) (strings_Builder_WriteString_df1e_T R) 2 a := by
  refine loops_ok 0 (by kernel_rfl) fun i hi => ?_
  omega
theorem strings_Builder_WriteString_df1e_S_ok (R : Type) (other : Yard.Spec R) (ho : Yard.Spec.Ok Tryd.prog 18 other) : Yard.Spec.Ok Tryd.prog 18 (specBy strings_Builder_WriteString_df1e_p strings_Builder_WriteString_df1e_q (strings_Builder_WriteString_df1e_rr strings_Builder_WriteString_df1e) other) :=
  specBy_ok ho (funK_sound TT mixed (strings_Builder_WriteString_df1e_EOk R) (keep := false) rfl rfl rfl rfl 2 (strings_Builder_WriteString_df1e_loops R)) fun (x : Pat.dens strings_Builder_WriteString_df1e_p) (y : HPat.dens strings_Builder_WriteString_df1e_q) k => strings_Builder_WriteString_df1e_ok x.2.1 y.1 k

/-! ### (*strings.Builder).WriteString -/
abbrev strings_Builder_WriteString_fb8e_ty (R : Type) : Type := Str → (Int → (List Int) → Option R) → Option R
abbrev strings_Builder_WriteString_fb8e_p : List Pat := [.leaf (.ptr 0 0), .leaf (.str)]
abbrev strings_Builder_WriteString_fb8e_q : List HPat := [.bld (.nilsl)]
noncomputable def strings_Builder_WriteString_fb8e_rr {R : Type} (fn : strings_Builder_WriteString_fb8e_ty R) : Pat.dens strings_Builder_WriteString_fb8e_p → HPat.dens strings_Builder_WriteString_fb8e_q → (V → Heap → Option R) → Option R := fun x y k => fn x.2.1 (fun q0 q1 => k (.tuple [.int .i64 q0, .niliface]) [.bld (.sl (.int .u8) q1 (.own 1)), .tok])
noncomputable def strings_Builder_WriteString_fb8e_E (R : Type) : Env R := fun i => match i with
  | 29 => some (false, (bcc_S R))
  | _ => none
theorem strings_Builder_WriteString_fb8e_EOk (R : Type) : EOk Tryd.prog (strings_Builder_WriteString_fb8e_E R) := by
  intro i b sp h
  unfold strings_Builder_WriteString_fb8e_E at h
  split at h
  · cases h; exact ⟨(bcc_is), fun _ h => nomatch h⟩
  · cases h

noncomputable def strings_Builder_WriteString_fb8e_T (R : Type) : Nat → Option (Hint × LSpec R) := fun i => match i with
  | _ => none

noncomputable def strings_Builder_WriteString_fb8e_X {R : Type} (x1 : Str) (k0 : Int → (List Int) → Option R) : Option R :=
  chk (decide ((0 + (bytesN x1).length) * 1 ≤ 140737488355328)) (k0 (x1.length : Int) (bytesN x1))
noncomputable def strings_Builder_WriteString_fb8e {R : Type} : strings_Builder_WriteString_fb8e_ty R := fun x1 k0 => strings_Builder_WriteString_fb8e_X x1 k0
theorem strings_Builder_WriteString_fb8e_ok {R : Type} (x1 : Str) (k : V → Heap → Option R) : funK tt (strings_Builder_WriteString_fb8e_E R) (strings_Builder_WriteString_fb8e_T R) false Tryd.f18 (codeOf Tryd.f18) [.ptr 0 0, .str x1] [.bld (.nilsl)] k =
    strings_Builder_WriteString_fb8e_X x1 (fun q0 q1 => k (.tuple [.int .i64 q0, .niliface]) [.bld (.sl (.int .u8) q1 (.own 1)), .tok]) := by kernel_rfl
theorem strings_Builder_WriteString_fb8e_loops (R : Type) : ∀ a ∈ loopsOf (codeOf Tryd.f18), LoopOk tt (strings_Builder_WriteString_fb8e_E R) (strings_Builder_WriteString_fb8e_T R) 1 a := by
  refine loops_ok 0 (by kernel_rfl) fun i hi => ?_
  omega
theorem strings_Builder_WriteString_fb8e_S_ok (R : Type) (other : Yard.Spec R) (ho : Yard.Spec.Ok Tryd.prog 18 other) : Yard.Spec.Ok Tryd.prog 18 (specBy strings_Builder_WriteString_fb8e_p strings_Builder_WriteString_fb8e_q (strings_Builder_WriteString_fb8e_rr strings_Builder_WriteString_fb8e) other) :=
  specBy_ok ho (funK_sound TT mixed (strings_Builder_WriteString_fb8e_EOk R) (keep := false) rfl rfl rfl rfl 1 (strings_Builder_WriteString_fb8e_loops R)) fun (x : Pat.dens strings_Builder_WriteString_fb8e_p) (y : HPat.dens strings_Builder_WriteString_fb8e_q) k => strings_Builder_WriteString_fb8e_ok x.2.1 k

/-! ### humpyard/decimal.Print -/
abbrev decimal_Print_ty (R : Type) : Type := Dcm → (Str → Option R) → Option R
abbrev decimal_Print_p : List Pat := [.agg [.int .i64, .int .i64]]
abbrev decimal_Print_q : List HPat := []
noncomputable def decimal_Print_rr {R : Type} (fn : decimal_Print_ty R) : Pat.dens decimal_Print_p → HPat.dens decimal_Print_q → (V → Heap → Option R) → Option R := fun x y k => fn (⟨x.1.1, x.1.2.1⟩ : Dcm) (fun q0 => k (.str q0) [])
noncomputable def decimal_Print_E (R : Type) (decimal_Right : decimal_Right_ty R) (strings_Builder_WriteByte_b66c : strings_Builder_WriteByte_b66c_ty R) (strings_Builder_WriteString_df1e : strings_Builder_WriteString_df1e_ty R) (strings_Builder_WriteString_fb8e : strings_Builder_WriteString_fb8e_ty R) : Env R := fun i => match i with
  | 15 => some (true, (specBy decimal_Right_p decimal_Right_q (decimal_Right_rr decimal_Right) specNo))
  | 16 => some (false, (specBy strings_Builder_WriteByte_b66c_p strings_Builder_WriteByte_b66c_q (strings_Builder_WriteByte_b66c_rr strings_Builder_WriteByte_b66c) specNo))
  | 18 => some (false, (specBy strings_Builder_WriteString_fb8e_p strings_Builder_WriteString_fb8e_q (strings_Builder_WriteString_fb8e_rr strings_Builder_WriteString_fb8e) (specBy strings_Builder_WriteString_df1e_p strings_Builder_WriteString_df1e_q (strings_Builder_WriteString_df1e_rr strings_Builder_WriteString_df1e) specNo)))
  | 20 => some (false, (bstr_S R))
  | 17 => some (true, (itoa_S R))
  | 19 => some (true, (rep_S R))
  | _ => none
theorem decimal_Print_EOk (R : Type) : EOk Tryd.prog (decimal_Print_E R decimal_Right strings_Builder_WriteByte_b66c strings_Builder_WriteString_df1e strings_Builder_WriteString_fb8e) := by
  intro i b sp h
  unfold decimal_Print_E at h
  split at h
  · cases h; exact ⟨(decimal_Right_S_ok R _ (specNo_ok _)), fun h => nomatch h⟩
  · cases h; exact ⟨(strings_Builder_WriteByte_b66c_S_ok R _ (specNo_ok _)), fun _ h => nomatch h⟩
  · cases h; exact ⟨(strings_Builder_WriteString_fb8e_S_ok R _ (strings_Builder_WriteString_df1e_S_ok R _ (specNo_ok _))), fun _ h => nomatch h⟩
  · cases h; exact ⟨(bstr_is), fun _ _ => bstr_soft⟩
  · cases h; exact ⟨(itoa_ok), fun h => nomatch h⟩
  · cases h; exact ⟨(rep_ok), fun h => nomatch h⟩
  · cases h

noncomputable def decimal_Print_T (R : Type) : Nat → Option (Hint × LSpec R) := fun i => match i with
  | _ => none

noncomputable def decimal_Print_X {R : Type} (decimal_Right : decimal_Right_ty R) (strings_Builder_WriteByte_b66c : strings_Builder_WriteByte_b66c_ty R) (strings_Builder_WriteString_df1e : strings_Builder_WriteString_df1e_ty R) (strings_Builder_WriteString_fb8e : strings_Builder_WriteString_fb8e_ty R) (x1 : Dcm) (k0 : Str → Option R) : Option R :=
  decimal_Right x1 (fun y2 => bif (!y2) then (k0 ([] : Str)) else (bif (decide (x1.mant < (0 : Int))) then (strings_Builder_WriteByte_b66c 45 (fun y3 => bif (decide (x1.exp ≥ (0 : Int))) then (chk (decide (0 ≤ x1.exp) && decide ((([48] : Str).length : Int) * x1.exp ≤ 140737488355328)) (chk (decide ((itoaS (max x1.mant (IntKind.i64.wrap (0 - x1.mant)))).length + (repS ([48] : Str) x1.exp).length ≤ 9223372036854775807)) (strings_Builder_WriteString_df1e ((itoaS (max x1.mant (IntKind.i64.wrap (0 - x1.mant)))) ++ (repS ([48] : Str) x1.exp)) y3 (fun y4 y5 => k0 (bstr y5))))) else (chk (decide (0 ≤ (max 0 (IntKind.i64.wrap ((IntKind.i64.wrap (1 - x1.exp)) - ((itoaS (max x1.mant (IntKind.i64.wrap (0 - x1.mant)))).length : Int))))) && decide ((([48] : Str).length : Int) * (max 0 (IntKind.i64.wrap ((IntKind.i64.wrap (1 - x1.exp)) - ((itoaS (max x1.mant (IntKind.i64.wrap (0 - x1.mant)))).length : Int)))) ≤ 140737488355328)) (chk (decide ((repS ([48] : Str) (max 0 (IntKind.i64.wrap ((IntKind.i64.wrap (1 - x1.exp)) - ((itoaS (max x1.mant (IntKind.i64.wrap (0 - x1.mant)))).length : Int))))).length + (itoaS (max x1.mant (IntKind.i64.wrap (0 - x1.mant)))).length ≤ 9223372036854775807)) (chk (decide ((0 : Int) ≤ (IntKind.i64.wrap ((((repS ([48] : Str) (max 0 (IntKind.i64.wrap ((IntKind.i64.wrap (1 - x1.exp)) - ((itoaS (max x1.mant (IntKind.i64.wrap (0 - x1.mant)))).length : Int))))) ++ (itoaS (max x1.mant (IntKind.i64.wrap (0 - x1.mant))))).length : Int) + x1.exp))) && decide ((IntKind.i64.wrap ((((repS ([48] : Str) (max 0 (IntKind.i64.wrap ((IntKind.i64.wrap (1 - x1.exp)) - ((itoaS (max x1.mant (IntKind.i64.wrap (0 - x1.mant)))).length : Int))))) ++ (itoaS (max x1.mant (IntKind.i64.wrap (0 - x1.mant))))).length : Int) + x1.exp)) ≤ ((repS ([48] : Str) (max 0 (IntKind.i64.wrap ((IntKind.i64.wrap (1 - x1.exp)) - ((itoaS (max x1.mant (IntKind.i64.wrap (0 - x1.mant)))).length : Int))))) ++ (itoaS (max x1.mant (IntKind.i64.wrap (0 - x1.mant))))).length)) (chk (decide ((0 : Int) ≤ (IntKind.i64.wrap ((((repS ([48] : Str) (max 0 (IntKind.i64.wrap ((IntKind.i64.wrap (1 - x1.exp)) - ((itoaS (max x1.mant (IntKind.i64.wrap (0 - x1.mant)))).length : Int))))) ++ (itoaS (max x1.mant (IntKind.i64.wrap (0 - x1.mant))))).length : Int) + x1.exp)))) (chk (decide (((((repS ([48] : Str) (max 0 (IntKind.i64.wrap ((IntKind.i64.wrap (1 - x1.exp)) - ((itoaS (max x1.mant (IntKind.i64.wrap (0 - x1.mant)))).length : Int))))) ++ (itoaS (max x1.mant (IntKind.i64.wrap (0 - x1.mant))))).drop 0).take ((IntKind.i64.wrap ((((repS ([48] : Str) (max 0 (IntKind.i64.wrap ((IntKind.i64.wrap (1 - x1.exp)) - ((itoaS (max x1.mant (IntKind.i64.wrap (0 - x1.mant)))).length : Int))))) ++ (itoaS (max x1.mant (IntKind.i64.wrap (0 - x1.mant))))).length : Int) + x1.exp)).toNat - 0)).length + 1 ≤ 9223372036854775807)) (chk (decide ((0 : Int) ≤ (((repS ([48] : Str) (max 0 (IntKind.i64.wrap ((IntKind.i64.wrap (1 - x1.exp)) - ((itoaS (max x1.mant (IntKind.i64.wrap (0 - x1.mant)))).length : Int))))) ++ (itoaS (max x1.mant (IntKind.i64.wrap (0 - x1.mant))))).length : Int)) && decide ((((repS ([48] : Str) (max 0 (IntKind.i64.wrap ((IntKind.i64.wrap (1 - x1.exp)) - ((itoaS (max x1.mant (IntKind.i64.wrap (0 - x1.mant)))).length : Int))))) ++ (itoaS (max x1.mant (IntKind.i64.wrap (0 - x1.mant))))).length : Int) ≤ ((repS ([48] : Str) (max 0 (IntKind.i64.wrap ((IntKind.i64.wrap (1 - x1.exp)) - ((itoaS (max x1.mant (IntKind.i64.wrap (0 - x1.mant)))).length : Int))))) ++ (itoaS (max x1.mant (IntKind.i64.wrap (0 - x1.mant))))).length)) (chk (decide ((0 : Int) ≤ (IntKind.i64.wrap ((((repS ([48] : Str) (max 0 (IntKind.i64.wrap ((IntKind.i64.wrap (1 - x1.exp)) - ((itoaS (max x1.mant (IntKind.i64.wrap (0 - x1.mant)))).length : Int))))) ++ (itoaS (max x1.mant (IntKind.i64.wrap (0 - x1.mant))))).length : Int) + x1.exp))) && decide ((IntKind.i64.wrap ((((repS ([48] : Str) (max 0 (IntKind.i64.wrap ((IntKind.i64.wrap (1 - x1.exp)) - ((itoaS (max x1.mant (IntKind.i64.wrap (0 - x1.mant)))).length : Int))))) ++ (itoaS (max x1.mant (IntKind.i64.wrap (0 - x1.mant))))).length : Int) + x1.exp)) ≤ (((repS ([48] : Str) (max 0 (IntKind.i64.wrap ((IntKind.i64.wrap (1 - x1.exp)) - ((itoaS (max x1.mant (IntKind.i64.wrap (0 - x1.mant)))).length : Int))))) ++ (itoaS (max x1.mant (IntKind.i64.wrap (0 - x1.mant))))).length : Int))) (chk (decide ((((((repS ([48] : Str) (max 0 (IntKind.i64.wrap ((IntKind.i64.wrap (1 - x1.exp)) - ((itoaS (max x1.mant (IntKind.i64.wrap (0 - x1.mant)))).length : Int))))) ++ (itoaS (max x1.mant (IntKind.i64.wrap (0 - x1.mant))))).drop 0).take ((IntKind.i64.wrap ((((repS ([48] : Str) (max 0 (IntKind.i64.wrap ((IntKind.i64.wrap (1 - x1.exp)) - ((itoaS (max x1.mant (IntKind.i64.wrap (0 - x1.mant)))).length : Int))))) ++ (itoaS (max x1.mant (IntKind.i64.wrap (0 - x1.mant))))).length : Int) + x1.exp)).toNat - 0)) ++ ([46] : Str)).length + ((((repS ([48] : Str) (max 0 (IntKind.i64.wrap ((IntKind.i64.wrap (1 - x1.exp)) - ((itoaS (max x1.mant (IntKind.i64.wrap (0 - x1.mant)))).length : Int))))) ++ (itoaS (max x1.mant (IntKind.i64.wrap (0 - x1.mant))))).drop (IntKind.i64.wrap ((((repS ([48] : Str) (max 0 (IntKind.i64.wrap ((IntKind.i64.wrap (1 - x1.exp)) - ((itoaS (max x1.mant (IntKind.i64.wrap (0 - x1.mant)))).length : Int))))) ++ (itoaS (max x1.mant (IntKind.i64.wrap (0 - x1.mant))))).length : Int) + x1.exp)).toNat).take ((((repS ([48] : Str) (max 0 (IntKind.i64.wrap ((IntKind.i64.wrap (1 - x1.exp)) - ((itoaS (max x1.mant (IntKind.i64.wrap (0 - x1.mant)))).length : Int))))) ++ (itoaS (max x1.mant (IntKind.i64.wrap (0 - x1.mant))))).length : Int).toNat - (IntKind.i64.wrap ((((repS ([48] : Str) (max 0 (IntKind.i64.wrap ((IntKind.i64.wrap (1 - x1.exp)) - ((itoaS (max x1.mant (IntKind.i64.wrap (0 - x1.mant)))).length : Int))))) ++ (itoaS (max x1.mant (IntKind.i64.wrap (0 - x1.mant))))).length : Int) + x1.exp)).toNat)).length ≤ 9223372036854775807)) (strings_Builder_WriteString_df1e ((((((repS ([48] : Str) (max 0 (IntKind.i64.wrap ((IntKind.i64.wrap (1 - x1.exp)) - ((itoaS (max x1.mant (IntKind.i64.wrap (0 - x1.mant)))).length : Int))))) ++ (itoaS (max x1.mant (IntKind.i64.wrap (0 - x1.mant))))).drop 0).take ((IntKind.i64.wrap ((((repS ([48] : Str) (max 0 (IntKind.i64.wrap ((IntKind.i64.wrap (1 - x1.exp)) - ((itoaS (max x1.mant (IntKind.i64.wrap (0 - x1.mant)))).length : Int))))) ++ (itoaS (max x1.mant (IntKind.i64.wrap (0 - x1.mant))))).length : Int) + x1.exp)).toNat - 0)) ++ ([46] : Str)) ++ ((((repS ([48] : Str) (max 0 (IntKind.i64.wrap ((IntKind.i64.wrap (1 - x1.exp)) - ((itoaS (max x1.mant (IntKind.i64.wrap (0 - x1.mant)))).length : Int))))) ++ (itoaS (max x1.mant (IntKind.i64.wrap (0 - x1.mant))))).drop (IntKind.i64.wrap ((((repS ([48] : Str) (max 0 (IntKind.i64.wrap ((IntKind.i64.wrap (1 - x1.exp)) - ((itoaS (max x1.mant (IntKind.i64.wrap (0 - x1.mant)))).length : Int))))) ++ (itoaS (max x1.mant (IntKind.i64.wrap (0 - x1.mant))))).length : Int) + x1.exp)).toNat).take ((((repS ([48] : Str) (max 0 (IntKind.i64.wrap ((IntKind.i64.wrap (1 - x1.exp)) - ((itoaS (max x1.mant (IntKind.i64.wrap (0 - x1.mant)))).length : Int))))) ++ (itoaS (max x1.mant (IntKind.i64.wrap (0 - x1.mant))))).length : Int).toNat - (IntKind.i64.wrap ((((repS ([48] : Str) (max 0 (IntKind.i64.wrap ((IntKind.i64.wrap (1 - x1.exp)) - ((itoaS (max x1.mant (IntKind.i64.wrap (0 - x1.mant)))).length : Int))))) ++ (itoaS (max x1.mant (IntKind.i64.wrap (0 - x1.mant))))).length : Int) + x1.exp)).toNat))) y3 (fun y6 y7 => k0 (bstr y7))))))))))))) else (bif (decide (x1.exp ≥ (0 : Int))) then (chk (decide (0 ≤ x1.exp) && decide ((([48] : Str).length : Int) * x1.exp ≤ 140737488355328)) (chk (decide ((itoaS (max x1.mant (IntKind.i64.wrap (0 - x1.mant)))).length + (repS ([48] : Str) x1.exp).length ≤ 9223372036854775807)) (strings_Builder_WriteString_fb8e ((itoaS (max x1.mant (IntKind.i64.wrap (0 - x1.mant)))) ++ (repS ([48] : Str) x1.exp)) (fun y8 y9 => k0 (bstr y9))))) else (chk (decide (0 ≤ (max 0 (IntKind.i64.wrap ((IntKind.i64.wrap (1 - x1.exp)) - ((itoaS (max x1.mant (IntKind.i64.wrap (0 - x1.mant)))).length : Int))))) && decide ((([48] : Str).length : Int) * (max 0 (IntKind.i64.wrap ((IntKind.i64.wrap (1 - x1.exp)) - ((itoaS (max x1.mant (IntKind.i64.wrap (0 - x1.mant)))).length : Int)))) ≤ 140737488355328)) (chk (decide ((repS ([48] : Str) (max 0 (IntKind.i64.wrap ((IntKind.i64.wrap (1 - x1.exp)) - ((itoaS (max x1.mant (IntKind.i64.wrap (0 - x1.mant)))).length : Int))))).length + (itoaS (max x1.mant (IntKind.i64.wrap (0 - x1.mant)))).length ≤ 9223372036854775807)) (chk (decide ((0 : Int) ≤ (IntKind.i64.wrap ((((repS ([48] : Str) (max 0 (IntKind.i64.wrap ((IntKind.i64.wrap (1 - x1.exp)) - ((itoaS (max x1.mant (IntKind.i64.wrap (0 - x1.mant)))).length : Int))))) ++ (itoaS (max x1.mant (IntKind.i64.wrap (0 - x1.mant))))).length : Int) + x1.exp))) && decide ((IntKind.i64.wrap ((((repS ([48] : Str) (max 0 (IntKind.i64.wrap ((IntKind.i64.wrap (1 - x1.exp)) - ((itoaS (max x1.mant (IntKind.i64.wrap (0 - x1.mant)))).length : Int))))) ++ (itoaS (max x1.mant (IntKind.i64.wrap (0 - x1.mant))))).length : Int) + x1.exp)) ≤ ((repS ([48] : Str) (max 0 (IntKind.i64.wrap ((IntKind.i64.wrap (1 - x1.exp)) - ((itoaS (max x1.mant (IntKind.i64.wrap (0 - x1.mant)))).length : Int))))) ++ (itoaS (max x1.mant (IntKind.i64.wrap (0 - x1.mant))))).length)) (chk (decide ((0 : Int) ≤ (IntKind.i64.wrap ((((repS ([48] : Str) (max 0 (IntKind.i64.wrap ((IntKind.i64.wrap (1 - x1.exp)) - ((itoaS (max x1.mant (IntKind.i64.wrap (0 - x1.mant)))).length : Int))))) ++ (itoaS (max x1.mant (IntKind.i64.wrap (0 - x1.mant))))).length : Int) + x1.exp)))) (chk (decide (((((repS ([48] : Str) (max 0 (IntKind.i64.wrap ((IntKind.i64.wrap (1 - x1.exp)) - ((itoaS (max x1.mant (IntKind.i64.wrap (0 - x1.mant)))).length : Int))))) ++ (itoaS (max x1.mant (IntKind.i64.wrap (0 - x1.mant))))).drop 0).take ((IntKind.i64.wrap ((((repS ([48] : Str) (max 0 (IntKind.i64.wrap ((IntKind.i64.wrap (1 - x1.exp)) - ((itoaS (max x1.mant (IntKind.i64.wrap (0 - x1.mant)))).length : Int))))) ++ (itoaS (max x1.mant (IntKind.i64.wrap (0 - x1.mant))))).length : Int) + x1.exp)).toNat - 0)).length + 1 ≤ 9223372036854775807)) (chk (decide ((0 : Int) ≤ (((repS ([48] : Str) (max 0 (IntKind.i64.wrap ((IntKind.i64.wrap (1 - x1.exp)) - ((itoaS (max x1.mant (IntKind.i64.wrap (0 - x1.mant)))).length : Int))))) ++ (itoaS (max x1.mant (IntKind.i64.wrap (0 - x1.mant))))).length : Int)) && decide ((((repS ([48] : Str) (max 0 (IntKind.i64.wrap ((IntKind.i64.wrap (1 - x1.exp)) - ((itoaS (max x1.mant (IntKind.i64.wrap (0 - x1.mant)))).length : Int))))) ++ (itoaS (max x1.mant (IntKind.i64.wrap (0 - x1.mant))))).length : Int) ≤ ((repS ([48] : Str) (max 0 (IntKind.i64.wrap ((IntKind.i64.wrap (1 - x1.exp)) - ((itoaS (max x1.mant (IntKind.i64.wrap (0 - x1.mant)))).length : Int))))) ++ (itoaS (max x1.mant (IntKind.i64.wrap (0 - x1.mant))))).length)) (chk (decide ((0 : Int) ≤ (IntKind.i64.wrap ((((repS ([48] : Str) (max 0 (IntKind.i64.wrap ((IntKind.i64.wrap (1 - x1.exp)) - ((itoaS (max x1.mant (IntKind.i64.wrap (0 - x1.mant)))).length : Int))))) ++ (itoaS (max x1.mant (IntKind.i64.wrap (0 - x1.mant))))).length : Int) + x1.exp))) && decide ((IntKind.i64.wrap ((((repS ([48] : Str) (max 0 (IntKind.i64.wrap ((IntKind.i64.wrap (1 - x1.exp)) - ((itoaS (max x1.mant (IntKind.i64.wrap (0 - x1.mant)))).length : Int))))) ++ (itoaS (max x1.mant (IntKind.i64.wrap (0 - x1.mant))))).length : Int) + x1.exp)) ≤ (((repS ([48] : Str) (max 0 (IntKind.i64.wrap ((IntKind.i64.wrap (1 - x1.exp)) - ((itoaS (max x1.mant (IntKind.i64.wrap (0 - x1.mant)))).length : Int))))) ++ (itoaS (max x1.mant (IntKind.i64.wrap (0 - x1.mant))))).length : Int))) (chk (decide ((((((repS ([48] : Str) (max 0 (IntKind.i64.wrap ((IntKind.i64.wrap (1 - x1.exp)) - ((itoaS (max x1.mant (IntKind.i64.wrap (0 - x1.mant)))).length : Int))))) ++ (itoaS (max x1.mant (IntKind.i64.wrap (0 - x1.mant))))).drop 0).take ((IntKind.i64.wrap ((((repS ([48] : Str) (max 0 (IntKind.i64.wrap ((IntKind.i64.wrap (1 - x1.exp)) - ((itoaS (max x1.mant (IntKind.i64.wrap (0 - x1.mant)))).length : Int))))) ++ (itoaS (max x1.mant (IntKind.i64.wrap (0 - x1.mant))))).length : Int) + x1.exp)).toNat - 0)) ++ ([46] : Str)).length + ((((repS ([48] : Str) (max 0 (IntKind.i64.wrap ((IntKind.i64.wrap (1 - x1.exp)) - ((itoaS (max x1.mant (IntKind.i64.wrap (0 - x1.mant)))).length : Int))))) ++ (itoaS (max x1.mant (IntKind.i64.wrap (0 - x1.mant))))).drop (IntKind.i64.wrap ((((repS ([48] : Str) (max 0 (IntKind.i64.wrap ((IntKind.i64.wrap (1 - x1.exp)) - ((itoaS (max x1.mant (IntKind.i64.wrap (0 - x1.mant)))).length : Int))))) ++ (itoaS (max x1.mant (IntKind.i64.wrap (0 - x1.mant))))).length : Int) + x1.exp)).toNat).take ((((repS ([48] : Str) (max 0 (IntKind.i64.wrap ((IntKind.i64.wrap (1 - x1.exp)) - ((itoaS (max x1.mant (IntKind.i64.wrap (0 - x1.mant)))).length : Int))))) ++ (itoaS (max x1.mant (IntKind.i64.wrap (0 - x1.mant))))).length : Int).toNat - (IntKind.i64.wrap ((((repS ([48] : Str) (max 0 (IntKind.i64.wrap ((IntKind.i64.wrap (1 - x1.exp)) - ((itoaS (max x1.mant (IntKind.i64.wrap (0 - x1.mant)))).length : Int))))) ++ (itoaS (max x1.mant (IntKind.i64.wrap (0 - x1.mant))))).length : Int) + x1.exp)).toNat)).length ≤ 9223372036854775807)) (strings_Builder_WriteString_fb8e ((((((repS ([48] : Str) (max 0 (IntKind.i64.wrap ((IntKind.i64.wrap (1 - x1.exp)) - ((itoaS (max x1.mant (IntKind.i64.wrap (0 - x1.mant)))).length : Int))))) ++ (itoaS (max x1.mant (IntKind.i64.wrap (0 - x1.mant))))).drop 0).take ((IntKind.i64.wrap ((((repS ([48] : Str) (max 0 (IntKind.i64.wrap ((IntKind.i64.wrap (1 - x1.exp)) - ((itoaS (max x1.mant (IntKind.i64.wrap (0 - x1.mant)))).length : Int))))) ++ (itoaS (max x1.mant (IntKind.i64.wrap (0 - x1.mant))))).length : Int) + x1.exp)).toNat - 0)) ++ ([46] : Str)) ++ ((((repS ([48] : Str) (max 0 (IntKind.i64.wrap ((IntKind.i64.wrap (1 - x1.exp)) - ((itoaS (max x1.mant (IntKind.i64.wrap (0 - x1.mant)))).length : Int))))) ++ (itoaS (max x1.mant (IntKind.i64.wrap (0 - x1.mant))))).drop (IntKind.i64.wrap ((((repS ([48] : Str) (max 0 (IntKind.i64.wrap ((IntKind.i64.wrap (1 - x1.exp)) - ((itoaS (max x1.mant (IntKind.i64.wrap (0 - x1.mant)))).length : Int))))) ++ (itoaS (max x1.mant (IntKind.i64.wrap (0 - x1.mant))))).length : Int) + x1.exp)).toNat).take ((((repS ([48] : Str) (max 0 (IntKind.i64.wrap ((IntKind.i64.wrap (1 - x1.exp)) - ((itoaS (max x1.mant (IntKind.i64.wrap (0 - x1.mant)))).length : Int))))) ++ (itoaS (max x1.mant (IntKind.i64.wrap (0 - x1.mant))))).length : Int).toNat - (IntKind.i64.wrap ((((repS ([48] : Str) (max 0 (IntKind.i64.wrap ((IntKind.i64.wrap (1 - x1.exp)) - ((itoaS (max x1.mant (IntKind.i64.wrap (0 - x1.mant)))).length : Int))))) ++ (itoaS (max x1.mant (IntKind.i64.wrap (0 - x1.mant))))).length : Int) + x1.exp)).toNat))) (fun y10 y11 => k0 (bstr y11))))))))))))))
noncomputable def decimal_Print {R : Type} : decimal_Print_ty R := fun x1 k0 => decimal_Print_X decimal_Right strings_Builder_WriteByte_b66c strings_Builder_WriteString_df1e strings_Builder_WriteString_fb8e x1 k0
theorem decimal_Print_ok {R : Type} (decimal_Right : decimal_Right_ty R) (strings_Builder_WriteByte_b66c : strings_Builder_WriteByte_b66c_ty R) (strings_Builder_WriteString_df1e : strings_Builder_WriteString_df1e_ty R) (strings_Builder_WriteString_fb8e : strings_Builder_WriteString_fb8e_ty R) (x1 : Dcm) (k : V → Heap → Option R) : funK tt (decimal_Print_E R decimal_Right strings_Builder_WriteByte_b66c strings_Builder_WriteString_df1e strings_Builder_WriteString_fb8e) (decimal_Print_T R) false Tryd.f10 (codeOf Tryd.f10) [.agg [.int .i64 x1.mant, .int .i64 x1.exp]] [] k =
    decimal_Print_X decimal_Right strings_Builder_WriteByte_b66c strings_Builder_WriteString_df1e strings_Builder_WriteString_fb8e x1 (fun q0 => k (.str q0) []) := by kernel_rfl
theorem decimal_Print_loops (R : Type) : ∀ a ∈ loopsOf (codeOf Tryd.f10), LoopOk tt (decimal_Print_E R decimal_Right strings_Builder_WriteByte_b66c strings_Builder_WriteString_df1e strings_Builder_WriteString_fb8e) (decimal_Print_T R) 0 a := by
  refine loops_ok 0 (by kernel_rfl) fun i hi => ?_
  omega
theorem decimal_Print_S_ok (R : Type) (other : Yard.Spec R) (ho : Yard.Spec.Ok Tryd.prog 10 other) : Yard.Spec.Ok Tryd.prog 10 (specBy decimal_Print_p decimal_Print_q (decimal_Print_rr decimal_Print) other) :=
  specBy_ok ho (funK_sound TT mixed (decimal_Print_EOk R) (keep := false) rfl rfl rfl rfl 0 (decimal_Print_loops R)) fun (x : Pat.dens decimal_Print_p) (y : HPat.dens decimal_Print_q) k => decimal_Print_ok decimal_Right strings_Builder_WriteByte_b66c strings_Builder_WriteString_df1e strings_Builder_WriteString_fb8e (⟨x.1.1, x.1.2.1⟩ : Dcm) k

/-! ### humpyard/humpyardlaw03.LexerNumbers -/
abbrev law03_LexerNumbers_ty (R : Type) : Type := Int → Int → (Bool → Option R) → Option R
abbrev law03_LexerNumbers_p : List Pat := [.leaf (.int .i64), .leaf (.int .i64)]
abbrev law03_LexerNumbers_q : List HPat := []
noncomputable def law03_LexerNumbers_rr {R : Type} (fn : law03_LexerNumbers_ty R) : Pat.dens law03_LexerNumbers_p → HPat.dens law03_LexerNumbers_q → (V → Heap → Option R) → Option R := fun x y k => fn x.1 x.2.1 (fun q0 => k (.bool q0) [])
noncomputable def law03_LexerNumbers_E (R : Type) (law01_Fit : law01_Fit_ty R) (decimal_Print : decimal_Print_ty R) (law03_awake : law03_awake_ty R) (lexer_Scan : lexer_Scan_ty R) : Env R := fun i => match i with
  | 9 => some (true, (specBy law01_Fit_p law01_Fit_q (law01_Fit_rr law01_Fit) specNo))
  | 10 => some (true, (specBy decimal_Print_p decimal_Print_q (decimal_Print_rr decimal_Print) specNo))
  | 5 => some (true, (specBy law03_awake_p law03_awake_q (law03_awake_rr law03_awake) specNo))
  | 6 => some (true, (specBy lexer_Scan_p lexer_Scan_q (lexer_Scan_rr lexer_Scan) specNo))
  | _ => none
theorem law03_LexerNumbers_EOk (R : Type) : EOk Tryd.prog (law03_LexerNumbers_E R law01_Fit decimal_Print law03_awake lexer_Scan) := by
  intro i b sp h
  unfold law03_LexerNumbers_E at h
  split at h
  · cases h; exact ⟨(law01_Fit_S_ok R _ (specNo_ok _)), fun h => nomatch h⟩
  · cases h; exact ⟨(decimal_Print_S_ok R _ (specNo_ok _)), fun h => nomatch h⟩
  · cases h; exact ⟨(law03_awake_S_ok R _ (specNo_ok _)), fun h => nomatch h⟩
  · cases h; exact ⟨(lexer_Scan_S_ok R _ (specNo_ok _)), fun h => nomatch h⟩
  · cases h

noncomputable def law03_LexerNumbers_T (R : Type) : Nat → Option (Hint × LSpec R) := fun i => match i with
  | _ => none

noncomputable def law03_LexerNumbers_X {R : Type} (law01_Fit : law01_Fit_ty R) (decimal_Print : decimal_Print_ty R) (law03_awake : law03_awake_ty R) (lexer_Scan : lexer_Scan_ty R) (x1 : Int) (x2 : Int) (k0 : Bool → Option R) : Option R :=
  law03_awake (fun y3 => law01_Fit x1 x2 (fun y4 => decimal_Print y4 (fun y5 => lexer_Scan y5 (fun y6 y7 y8 => chk (decide (1 + y5.length ≤ 9223372036854775807)) (chk (decide ((([91] : Str) ++ y5).length + 1 ≤ 9223372036854775807)) (lexer_Scan ((([91] : Str) ++ y5) ++ ([93] : Str)) (fun y9 y10 y11 => bif (!y3) then (k0 false) else (bif (y7 != 0) then (k0 false) else (bif (y10 != 0) then (k0 false) else (bif ((y6.length : Int) != 2) then (k0 false) else (bif ((y9.length : Int) != 4) then (k0 false) else (chk (decide ((0 : Int) < y6.length)) (bif ((y6.getD 0 (Ty.dflt .token)).kind == 3) then (chk (decide ((0 : Int) < y6.length)) (bif ((y6.getD 0 (Ty.dflt .token)).num.mant == y4.mant && ((y6.getD 0 (Ty.dflt .token)).num.exp == y4.exp && true)) then (chk (decide ((0 : Int) < y6.length)) (bif ((y6.getD 0 (Ty.dflt .token)).text == y5) then (chk (decide ((1 : Int) < y6.length)) (bif ((y6.getD 1 (Ty.dflt .token)).at_ == (y5.length : Int)) then (chk (decide ((1 : Int) < y9.length)) (bif ((y9.getD 1 (Ty.dflt .token)).num.mant == y4.mant && ((y9.getD 1 (Ty.dflt .token)).num.exp == y4.exp && true)) then (chk (decide ((1 : Int) < y9.length)) (bif ((y9.getD 1 (Ty.dflt .token)).at_ == 1) then (chk (decide ((2 : Int) < y9.length)) (k0 ((y9.getD 2 (Ty.dflt .token)).at_ == (IntKind.i64.wrap (1 + (y5.length : Int)))))) else (k0 false))) else (k0 false))) else (k0 false))) else (k0 false))) else (k0 false))) else (k0 false))))))))))))))
noncomputable def law03_LexerNumbers {R : Type} : law03_LexerNumbers_ty R := fun x1 x2 k0 => law03_LexerNumbers_X law01_Fit decimal_Print law03_awake lexer_Scan x1 x2 k0
theorem law03_LexerNumbers_ok {R : Type} (law01_Fit : law01_Fit_ty R) (decimal_Print : decimal_Print_ty R) (law03_awake : law03_awake_ty R) (lexer_Scan : lexer_Scan_ty R) (x1 : Int) (x2 : Int) (k : V → Heap → Option R) : funK tt (law03_LexerNumbers_E R law01_Fit decimal_Print law03_awake lexer_Scan) (law03_LexerNumbers_T R) false Tryd.f4 (codeOf Tryd.f4) [.int .i64 x1, .int .i64 x2] [] k =
    law03_LexerNumbers_X law01_Fit decimal_Print law03_awake lexer_Scan x1 x2 (fun q0 => k (.bool q0) []) := by kernel_rfl
theorem law03_LexerNumbers_loops (R : Type) : ∀ a ∈ loopsOf (codeOf Tryd.f4), LoopOk tt (law03_LexerNumbers_E R law01_Fit decimal_Print law03_awake lexer_Scan) (law03_LexerNumbers_T R) 0 a := by
  refine loops_ok 0 (by kernel_rfl) fun i hi => ?_
  omega
theorem law03_LexerNumbers_S_ok (R : Type) (other : Yard.Spec R) (ho : Yard.Spec.Ok Tryd.prog 4 other) : Yard.Spec.Ok Tryd.prog 4 (specBy law03_LexerNumbers_p law03_LexerNumbers_q (law03_LexerNumbers_rr law03_LexerNumbers) other) :=
  specBy_ok ho (funK_sound TT mixed (law03_LexerNumbers_EOk R) (keep := false) rfl rfl rfl rfl 0 (law03_LexerNumbers_loops R)) fun (x : Pat.dens law03_LexerNumbers_p) (y : HPat.dens law03_LexerNumbers_q) k => law03_LexerNumbers_ok law01_Fit decimal_Print law03_awake lexer_Scan x.1 x.2.1 k

end Go.Proofs.YtmlkkgfenfdndaaDoor

set_option linter.unusedVariables false
set_option maxRecDepth 100000
namespace Go.Proofs.YtmlkkgfenfdndaaDoor
open Go Go.Yard

theorem pick01 {R : Type} (c n : Int) (hc : I64 c) (h0 : 0 < n) (hn : n ≤ 9223372036854775807) : ∃ r : Int, 0 ≤ r ∧ r < n ∧ ∀ k : Int → Option R, law01_pick c n k = k r := pick_raw c n hc h0 hn

theorem strip_ex : ∀ (b : Nat) (m : Int), m ≠ 0 → m.natAbs < b → ∃ (j : Nat) (u : Int), m = u * 10 ^ j ∧ Int.tmod u 10 ≠ 0
  | 0, m, _, h => by omega
  | b + 1, m, h0, hb => by
    by_cases h : Int.tmod m 10 = 0
    · have hd : m = Int.tdiv m 10 * 10 := by have := Int.tmod_add_mul_tdiv m 10; omega
      have hn : (Int.tdiv m 10).natAbs < m.natAbs := by rw [Int.natAbs_tdiv]; show m.natAbs / 10 < m.natAbs; omega
      obtain ⟨j, u, e, hu⟩ := strip_ex b (Int.tdiv m 10) (by omega) (by omega)
      refine ⟨j + 1, u, ?_, hu⟩
      rw [Int.pow_succ, ← Int.mul_assoc, ← e]
      exact hd
    · exact ⟨0, m, by simp, h⟩

theorem strip_one : ∀ (i j : Nat) (u v : Int), Int.tmod u 10 ≠ 0 → Int.tmod v 10 ≠ 0 → u * 10 ^ i = v * 10 ^ j → i = j ∧ u = v
  | 0, 0, u, v, _, _, h => ⟨rfl, by simpa using h⟩
  | 0, j + 1, u, v, hu, _, h => by
    exfalso
    apply hu
    have : u = (v * 10 ^ j) * 10 := by rw [Int.pow_succ, ← Int.mul_assoc] at h; simpa using h
    rw [this]
    exact Int.mul_tmod_left _ _
  | i + 1, 0, u, v, _, hv, h => by
    exfalso
    apply hv
    have : v = (u * 10 ^ i) * 10 := by rw [Int.pow_succ, ← Int.mul_assoc] at h; simpa using h.symm
    rw [this]
    exact Int.mul_tmod_left _ _
  | i + 1, j + 1, u, v, hu, hv, h => by
    have h2 : u * 10 ^ i = v * 10 ^ j := by
      rw [Int.pow_succ, Int.pow_succ, ← Int.mul_assoc, ← Int.mul_assoc] at h
      omega
    obtain ⟨h3, h4⟩ := strip_one i j u v hu hv h2
    exact ⟨by omega, h4⟩

theorem pow_pos10 (j : Nat) : (1 : Int) ≤ 10 ^ j := by
  induction j with
  | zero => simp
  | succ j ih => rw [Int.pow_succ]; omega

theorem abs_le_mul (u : Int) (j : Nat) : u.natAbs ≤ (u * 10 ^ j).natAbs := by
  rw [Int.natAbs_mul]
  have h := pow_pos10 j
  have : 1 ≤ ((10 : Int) ^ j).natAbs := by omega
  exact Nat.le_mul_of_pos_right _ this

theorem noughts_le (u : Int) (hu : u ≠ 0) : ∀ j : Nat, j ≤ (u * 10 ^ j).natAbs := by
  intro j
  rw [Int.natAbs_mul]
  have h1 : 1 ≤ u.natAbs := by omega
  have h2 : j ≤ ((10 : Int) ^ j).natAbs := by
    induction j with
    | zero => simp
    | succ j ih =>
      have := pow_pos10 j
      rw [Int.pow_succ, Int.natAbs_mul]
      show j + 1 ≤ ((10 : Int) ^ j).natAbs * 10
      omega
  calc j ≤ ((10 : Int) ^ j).natAbs := h2
    _ ≤ u.natAbs * ((10 : Int) ^ j).natAbs := Nat.le_mul_of_pos_left _ h1

theorem noughts_pow (u : Int) (hu : u ≠ 0) (j : Nat) : 2 ^ j ≤ (u * 10 ^ j).natAbs := by
  rw [Int.natAbs_mul]
  have h2 : ∀ j : Nat, 2 ^ j ≤ ((10 : Int) ^ j).natAbs := by
    intro j
    induction j with
    | zero => simp
    | succ j ih =>
      rw [Int.pow_succ, Int.natAbs_mul, Nat.pow_succ]
      show 2 ^ j * 2 ≤ ((10 : Int) ^ j).natAbs * 10
      omega
  exact Nat.le_trans (h2 j) (Nat.le_mul_of_pos_left _ (by omega))

theorem noughts_64 {u : Int} (hu : u ≠ 0) {j : Nat} (hb : I64 (u * 10 ^ j)) : j < 64 := by
  have h := noughts_pow u hu j
  unfold I64 at hb
  rcases Nat.lt_or_ge j 64 with h1 | h1
  · exact h1
  · have h2 : (2 : Nat) ^ 64 ≤ 2 ^ j := Nat.pow_le_pow_right (by omega) h1
    have h3 : (2 : Nat) ^ 64 = 18446744073709551616 := rfl
    omega

theorem make_loop {R : Type} (d : Dcm) (e0 : Int → Int → Dcm → Option R) : ∀ (j n : Nat) (u x : Int), j < n → Int.tmod u 10 ≠ 0 → I64 (u * 10 ^ j) → -9223372036854775808 ≤ x → x + j ≤ 4000000000000000000 →
    decimal_Make_4_0_L n (u * 10 ^ j) x d e0 = e0 u (x + j) d := by
  intro j
  induction j with
  | zero =>
    intro n u x hn hu hb h1 h2
    obtain ⟨m, rfl⟩ : ∃ m, n = m + 1 := ⟨n - 1, by omega⟩
    have e : decimal_Make_4_0_L (m + 1) (u * 10 ^ 0) x d e0 = decimal_Make_4_0_B (fun x0' x1' x2' => decimal_Make_4_0_L m x0' x1' x2' e0) (u * 10 ^ 0) x d e0 := rfl
    rw [e]
    unfold decimal_Make_4_0_B
    have e1 : u * 10 ^ 0 = u := by simp
    have e2 : (Int.tmod u 10 == 0) = false := by rw [beq_eq_false_iff_ne]; exact hu
    rw [e1, e2, cond_false]
    simp
  | succ j ih =>
    intro n u x hn hu hb h1 h2
    obtain ⟨m, rfl⟩ : ∃ m, n = m + 1 := ⟨n - 1, by omega⟩
    have e : decimal_Make_4_0_L (m + 1) (u * 10 ^ (j + 1)) x d e0 = decimal_Make_4_0_B (fun x0' x1' x2' => decimal_Make_4_0_L m x0' x1' x2' e0) (u * 10 ^ (j + 1)) x d e0 := rfl
    rw [e]
    unfold decimal_Make_4_0_B
    have ep : u * 10 ^ (j + 1) = u * 10 ^ j * 10 := by rw [Int.pow_succ, Int.mul_assoc]
    unfold I64 at hb
    rw [ep] at hb ⊢
    have e1 : (Int.tmod (u * 10 ^ j * 10) 10 == 0) = true := by rw [Int.mul_tmod_left]; rfl
    have e2 : Int.tdiv (u * 10 ^ j * 10) 10 = u * 10 ^ j := Int.mul_tdiv_cancel _ (by omega)
    rw [e1, cond_true, e2, wrap_id (n := u * 10 ^ j) (by omega) (by omega), wrap_id (n := x + 1) (by omega) (by omega)]
    show decimal_Make_4_0_L m (u * 10 ^ j) (x + 1) d e0 = _
    rw [ih m u (x + 1) (by omega) hu (by unfold I64; omega) (by omega) (by omega)]
    have : x + 1 + (j : Int) = x + ((j + 1 : Nat) : Int) := by omega
    rw [this]

theorem within_ok {R : Type} (a b c : Int) (k : Bool → Option R) : decimal_within_int a b c k = k (decide (a ≤ b) && decide (b ≤ c)) := by
  have e : decimal_within_int a b c k = decimal_within_int_X a b c k := rfl
  rw [e]
  unfold decimal_within_int_X
  by_cases h1 : a ≤ b
  · rw [dtrue h1]; first | rfl | simp
  · rw [dfalse h1]; first | rfl | simp

def mkD (u x : Int) : Dcm × Bool := if -1000000000000000 ≤ u ∧ u ≤ 1000000000000000 ∧ -9 ≤ x ∧ x ≤ 9 then (⟨u, x⟩, true) else (⟨0, 0⟩, false)

theorem make_ok {R : Type} (u : Int) (j : Nat) (x : Int) (hu : Int.tmod u 10 ≠ 0) (hb : I64 (u * 10 ^ j)) (h1 : -9223372036854775808 ≤ x) (h2 : x ≤ 1000000) (k : Dcm → Bool → Option R) :
    decimal_Make (u * 10 ^ j) x k = k (mkD u (x + j)).1 (mkD u (x + j)).2 := by
  have e : decimal_Make (u * 10 ^ j) x k = decimal_Make_X decimal_within_int decimal_Make_4_0_L (u * 10 ^ j) x k := rfl
  rw [e]
  unfold decimal_Make_X
  have hu0 : u ≠ 0 := by rintro rfl; exact hu rfl
  have ha := abs_le_mul u j
  have hn := noughts_le u hu0 j
  have h64 := noughts_64 hu0 hb
  have h0 : (u * 10 ^ j == 0) = false := by rw [beq_eq_false_iff_ne]; omega
  have hm : min x 1000000 = x := Int.min_eq_left h2
  unfold I64 at hb
  rw [h0, cond_false, hm, make_loop _ _ j _ u x (by omega) hu (by unfold I64; exact hb) h1 (by omega)]
  rw [within_ok]
  unfold mkD
  by_cases c1 : -1000000000000000 ≤ u ∧ u ≤ 1000000000000000
  · rw [dtrue c1.1, dtrue c1.2]
    simp only [Bool.and_self, Bool.not_true, cond_false]
    rw [within_ok]
    by_cases c2 : -9 ≤ x + (j : Int) ∧ x + (j : Int) ≤ 9
    · rw [dtrue c2.1, dtrue c2.2, if_pos ⟨c1.1, c1.2, c2.1, c2.2⟩]
      rfl
    · rw [if_neg (fun h => c2 h.2.2)]
      have : (decide (-9 ≤ x + (j : Int)) && decide (x + (j : Int) ≤ 9)) = false := by
        rw [Bool.and_eq_false_iff, decide_eq_false_iff_not, decide_eq_false_iff_not]; omega
      rw [this]
      rfl
  · rw [if_neg (fun h => c1 ⟨h.1, h.2.1⟩)]
    have : (decide (-1000000000000000 ≤ u) && decide (u ≤ 1000000000000000)) = false := by
      rw [Bool.and_eq_false_iff, decide_eq_false_iff_not, decide_eq_false_iff_not]; omega
    rw [this]
    rfl

theorem make_zero {R : Type} (x : Int) (k : Dcm → Bool → Option R) : decimal_Make 0 x k = k ⟨0, 0⟩ true := by
  have e : decimal_Make 0 x k = decimal_Make_X decimal_within_int decimal_Make_4_0_L 0 x k := rfl
  rw [e]
  rfl

theorem right_mk {R : Type} {u x : Int} (hu : Int.tmod u 10 ≠ 0) (h : -1000000000000000 ≤ u ∧ u ≤ 1000000000000000 ∧ -9 ≤ x ∧ x ≤ 9) (k : Bool → Option R) : decimal_Right ⟨u, x⟩ k = k true := by
  have e : decimal_Right ⟨u, x⟩ k = decimal_Right_X decimal_within_int ⟨u, x⟩ k := rfl
  rw [e]
  unfold decimal_Right_X
  have hu0 : u ≠ 0 := by rintro rfl; exact hu rfl
  have e1 : (u == 0) = false := by rw [beq_eq_false_iff_ne]; exact hu0
  have e2 : (Int.tmod u 10 != 0) = true := bne_iff_ne.2 hu
  simp only [e1, e2, cond_false, cond_true, within_ok]
  rw [dtrue h.1, dtrue h.2.1, dtrue h.2.2.1, dtrue h.2.2.2]
  rfl

end Go.Proofs.YtmlkkgfenfdndaaDoor

set_option linter.unusedVariables false
set_option maxRecDepth 100000
namespace Go.Proofs.YtmlkkgfenfdndaaDoor
open Go Go.Yard Go.Lib

def Fm (d : Dcm) : Prop := (d.mant = 0 ∧ d.exp = 0) ∨ (Int.tmod d.mant 10 ≠ 0 ∧ -1000000000000000 ≤ d.mant ∧ d.mant ≤ 1000000000000000 ∧ -9 ≤ d.exp ∧ d.exp ≤ 9)

theorem Fm.bounds {d : Dcm} (h : Fm d) : -1000000000000000 ≤ d.mant ∧ d.mant ≤ 1000000000000000 ∧ -9 ≤ d.exp ∧ d.exp ≤ 9 := by
  rcases h with h | h <;> omega
theorem Fm.nz {d : Dcm} (h : Fm d) (h0 : d.mant ≠ 0) : Int.tmod d.mant 10 ≠ 0 := by
  rcases h with h | h
  · exact (h0 h.1).elim
  · exact h.1
theorem Fm.zero {d : Dcm} (h : Fm d) (h0 : d.mant = 0) : d = ⟨0, 0⟩ := by
  rcases h with h | h
  · cases d; simp only at h; rw [h.1, h.2]
  · exact (h.1 (by rw [h0]; rfl)).elim
theorem Fm.mk0 : Fm ⟨0, 0⟩ := .inl ⟨rfl, rfl⟩
theorem tmod_neg {m : Int} (h : Int.tmod m 10 ≠ 0) : Int.tmod (-m) 10 ≠ 0 := by rw [Int.neg_tmod]; omega
theorem Fm.neg {d : Dcm} (h : Fm d) : Fm ⟨-d.mant, d.exp⟩ := by
  rcases h with h | h
  · exact .inl ⟨by simp only; omega, h.2⟩
  · exact .inr ⟨tmod_neg h.1, by simp only; omega, by simp only; omega, h.2.2.2⟩

theorem right_ok {R : Type} {d : Dcm} (h : Fm d) (k : Bool → Option R) : decimal_Right d k = k true := by
  rcases h with h | h
  · have e : decimal_Right d k = decimal_Right_X decimal_within_int d k := rfl
    rw [e]
    unfold decimal_Right_X
    rw [h.1, h.2]
    rfl
  · cases d; exact right_mk h.1 h.2 k

theorem fit_loop {R : Type} (x : Int) (d : Dcm) (e0 : Int → Int → Dcm → Option R) : ∀ (j n : Nat) (u : Int), j < n → Int.tmod u 10 ≠ 0 → I64 (u * 10 ^ j) →
    law01_Fit_3_0_L n (u * 10 ^ j) x d e0 = e0 u x d := by
  intro j
  induction j with
  | zero =>
    intro n u hn hu hb
    obtain ⟨m, rfl⟩ : ∃ m, n = m + 1 := ⟨n - 1, by omega⟩
    have e : law01_Fit_3_0_L (m + 1) (u * 10 ^ 0) x d e0 = law01_Fit_3_0_B (fun x0' x1' x2' => law01_Fit_3_0_L m x0' x1' x2' e0) (u * 10 ^ 0) x d e0 := rfl
    rw [e]
    unfold law01_Fit_3_0_B
    have e1 : u * 10 ^ 0 = u := by simp
    have e2 : (Int.tmod u 10 == 0) = false := by rw [beq_eq_false_iff_ne]; exact hu
    have e3 : (u != 0) = true := bne_iff_ne.2 (by rintro rfl; exact hu rfl)
    rw [e1, e3, cond_true, e2, cond_false]
  | succ j ih =>
    intro n u hn hu hb
    obtain ⟨m, rfl⟩ : ∃ m, n = m + 1 := ⟨n - 1, by omega⟩
    have e : law01_Fit_3_0_L (m + 1) (u * 10 ^ (j + 1)) x d e0 = law01_Fit_3_0_B (fun x0' x1' x2' => law01_Fit_3_0_L m x0' x1' x2' e0) (u * 10 ^ (j + 1)) x d e0 := rfl
    rw [e]
    unfold law01_Fit_3_0_B
    have ep : u * 10 ^ (j + 1) = u * 10 ^ j * 10 := by rw [Int.pow_succ, Int.mul_assoc]
    have hu0 : u ≠ 0 := by rintro rfl; exact hu rfl
    have hab := abs_le_mul u (j + 1)
    have e3 : (u * 10 ^ (j + 1) != 0) = true := bne_iff_ne.2 (by omega)
    unfold I64 at hb
    rw [e3, cond_true]
    rw [ep] at hb ⊢
    have e1 : (Int.tmod (u * 10 ^ j * 10) 10 == 0) = true := by rw [Int.mul_tmod_left]; rfl
    have e2 : Int.tdiv (u * 10 ^ j * 10) 10 = u * 10 ^ j := Int.mul_tdiv_cancel _ (by omega)
    rw [e1, cond_true, e2, wrap_id (n := u * 10 ^ j) (by omega) (by omega)]
    exact ih m u (by omega) hu (by unfold I64; omega)

theorem fit_ok {R : Type} (a b : Int) (ha : I64 a) (hb : I64 b) : ∃ d : Dcm, Fm d ∧ ∀ k : Dcm → Option R, law01_Fit a b k = k d := by
  obtain ⟨m, m0, m1, hm⟩ := pick01 (R := R) a 2000000000000001 ha (by omega) (by omega)
  obtain ⟨x, x0, x1, hx⟩ := pick01 (R := R) b 19 hb (by omega) (by omega)
  have e : ∀ k : Dcm → Option R, law01_Fit a b k = law01_Fit_X law01_pick law01_Fit_3_0_L a b k := fun _ => rfl
  by_cases h0 : m - 1000000000000000 = 0
  · refine ⟨⟨0, 0⟩, .mk0, fun k => ?_⟩
    rw [e]
    unfold law01_Fit_X
    rw [hm, hx, wrap_id (n := m - 1000000000000000) (by omega) (by omega), h0]
    rfl
  · obtain ⟨j, u, hu, hd⟩ := strip_ex ((m - 1000000000000000).natAbs + 1) _ h0 (by omega)
    have hab := abs_le_mul u j
    have hb64 : I64 (u * 10 ^ j) := by unfold I64; omega
    have h64 := noughts_64 (by rintro rfl; exact hd rfl) hb64
    refine ⟨⟨u, x - 9⟩, .inr ⟨hd, by simp only; omega, by simp only; omega, by simp only; omega, by simp only; omega⟩, fun k => ?_⟩
    rw [e]
    unfold law01_Fit_X
    rw [hm, hx, wrap_id (n := m - 1000000000000000) (by omega) (by omega), wrap_id (n := x - 9) (by omega) (by omega)]
    have key := fun (F : Nat) (hF : j < F) => fit_loop (R := R) (x - 9) ⟨0, 0⟩ (fun y9 y10 y11 => bif (y9 == 0) then (k (⟨y9, 0⟩ : Dcm)) else (k (⟨y9, y10⟩ : Dcm))) j F u hF hd hb64
    rw [← hu] at key
    rw [key _ (by omega)]
    have e0 : (u == 0) = false := by rw [beq_eq_false_iff_ne]; rintro rfl; exact hd rfl
    rw [e0]
    rfl

end Go.Proofs.YtmlkkgfenfdndaaDoor


set_option linter.unusedVariables false
set_option maxRecDepth 100000
namespace Go.Proofs.YtmlkkgfenfdndaaDoor
open Go Go.Yard Go.Lib

def Made (m x : Int) (r : Dcm × Bool) : Prop := (m = 0 ∧ r = (⟨0, 0⟩, true)) ∨ ∃ (u : Int) (j : Nat), m = u * 10 ^ j ∧ Int.tmod u 10 ≠ 0 ∧ r = mkD u (x + j)

theorem make_any {R : Type} (m x : Int) (hm : I64 m) (h1 : -4000000000000000000 ≤ x) (h2 : x ≤ 1000000) : ∃ r : Dcm × Bool, Made m x r ∧ ∀ k : Dcm → Bool → Option R, decimal_Make m x k = k r.1 r.2 := by
  by_cases h0 : m = 0
  · subst h0
    exact ⟨_, .inl ⟨rfl, rfl⟩, fun k => make_zero x k⟩
  · obtain ⟨j, u, hu, hd⟩ := strip_ex (m.natAbs + 1) m h0 (by omega)
    exact ⟨_, .inr ⟨u, j, hu, hd, rfl⟩, fun k => by subst hu; exact make_ok u j x hd hm (by omega) h2 k⟩

def val (d : Dcm) : Int := d.mant * 10 ^ (d.exp + 9).toNat

theorem nDigits_low (u : Nat) (h : 0 < u) : 10 ^ (nDigits u - 1) ≤ u := by
  induction u using Nat.strongRecOn with
  | _ u ih =>
    by_cases h1 : u < 10
    · rw [nDigits_small h1]; exact h
    · rw [nDigits_big h1, Nat.add_sub_cancel]
      have h2 := ih (u / 10) (by omega) (by omega)
      have h3 := nDigits_pos (u / 10)
      have e : nDigits (u / 10) = (nDigits (u / 10) - 1) + 1 := by omega
      rw [e, Nat.pow_succ]
      omega

theorem digits16 {u : Nat} (h : u ≤ 1000000000000000) : nDigits u ≤ 16 := by
  rcases Nat.eq_zero_or_pos u with rfl | h0
  · rw [nDigits_small (by omega)]; omega
  · have h1 := nDigits_low u h0
    rcases Nat.lt_or_ge (nDigits u) 17 with h2 | h2
    · omega
    · have h3 : (10 : Nat) ^ 16 ≤ 10 ^ (nDigits u - 1) := Nat.pow_le_pow_right (by omega) (by omega)
      have e : (10 : Nat) ^ 16 = 10000000000000000 := rfl
      omega

theorem made_same {d : Dcm} (h : Fm d) (h0 : d.mant ≠ 0) {j : Nat} {x : Int} (hx : x + j = d.exp) {r : Dcm × Bool} (hr : Made (d.mant * 10 ^ j) x r) : r = (d, true) := by
  have hz := h.nz h0
  have hab := abs_le_mul d.mant j
  rcases hr with ⟨h1, _⟩ | ⟨u, i, e, hu, rfl⟩
  · omega
  · obtain ⟨rfl, rfl⟩ := strip_one i j u d.mant hu hz e.symm
    have b := h.bounds
    unfold mkD
    rw [if_pos (by omega), hx]

end Go.Proofs.YtmlkkgfenfdndaaDoor

set_option linter.unusedVariables false
set_option maxRecDepth 100000
namespace Go.Proofs.YtmlkkgfenfdndaaDoor
open Go Go.Yard

abbrev zs (s : Str) : List Int := s.map fun b => (b.toNat : Int)
theorem zs_app (s t : Str) : zs (s ++ t) = zs s ++ zs t := List.map_append
theorem zs_bytesN (s : Str) : bytesN s = zs s := rfl
theorem zs_len (s : Str) : (zs s).length = s.length := List.length_map _
theorem bstr_zs (s : Str) : bstr (zs s) = s := by
  unfold bstr zs
  rw [List.map_map]
  conv => rhs; rw [← List.map_id s]
  exact List.map_congr_left fun b _ => by simp
theorem zs_nat (n : Nat) (h : n < 256) : ((UInt8.ofNat n).toNat : Int) = n := by rw [u8_nat n h]

def Lim (s : Str) : Prop := s.length ≤ 100000000000

theorem ws {R : Type} (x : Str) (s : Str) (hx : x.length ≤ 100000000000) (hl : Lim s) (k : Int → List Int → Option R) : strings_Builder_WriteString_df1e x (zs s) k = k (x.length : Int) (zs (s ++ x)) := by
  show chk (decide (((zs s).length + (bytesN x).length) * 1 ≤ 140737488355328)) (k (x.length : Int) (zs s ++ bytesN x)) = _
  unfold Lim at hl
  rw [zs_bytesN, chk_pos (dtrue (by rw [zs_len, zs_len]; omega)), zs_app]

theorem or128 : ∀ x : Fin 64, IntKind.u8.wrap ((BitVec.ofInt IntKind.u8.bits 128 ||| BitVec.ofInt IntKind.u8.bits (x.val : Int)).toNat : Int) = ((128 + x.val : Nat) : Int) := by decide +kernel
theorem or192 : ∀ x : Fin 32, IntKind.u8.wrap ((BitVec.ofInt IntKind.u8.bits 192 ||| BitVec.ofInt IntKind.u8.bits (IntKind.u8.wrap (x.val : Int))).toNat : Int) = ((192 + x.val : Nat) : Int) := by decide +kernel
theorem or224 : ∀ x : Fin 16, IntKind.u8.wrap ((BitVec.ofInt IntKind.u8.bits 224 ||| BitVec.ofInt IntKind.u8.bits (IntKind.u8.wrap (x.val : Int))).toNat : Int) = ((224 + x.val : Nat) : Int) := by decide +kernel
theorem or240 : ∀ x : Fin 8, IntKind.u8.wrap ((BitVec.ofInt IntKind.u8.bits 240 ||| BitVec.ofInt IntKind.u8.bits (IntKind.u8.wrap (x.val : Int))).toNat : Int) = ((240 + x.val : Nat) : Int) := by decide +kernel
theorem and63 : ∀ x : Fin 256, IntKind.u8.wrap ((BitVec.ofInt IntKind.u8.bits (x.val : Int) &&& BitVec.ofInt IntKind.u8.bits 63).toNat : Int) = ((x.val % 64 : Nat) : Int) := by decide +kernel

theorem wrap8 (n : Nat) : IntKind.u8.wrap (n : Int) = ((n % 256 : Nat) : Int) := by
  simp only [IntKind.wrap, IntKind.bits, IntKind.signed]
  simp
theorem wrap32u {n : Nat} (h : n < 1114112) : IntKind.u32.wrap (n : Int) = (n : Int) := by
  simp only [IntKind.wrap, IntKind.bits, IntKind.signed]
  simp
  omega
theorem shr (c n : Nat) (h : n ≤ 32) : Int.fdiv (c : Int) (2 ^ (min n IntKind.i32.bits)) = ((c / 2 ^ n : Nat) : Int) := by
  have e : min n IntKind.i32.bits = n := Nat.min_eq_left h
  rw [e, Int.fdiv_eq_ediv_of_nonneg _ (by exact Int.le_of_lt (Int.pow_pos (by omega)))]
  rw [Int.natCast_ediv]
  congr 1

theorem cont (c : Nat) : IntKind.u8.wrap ((BitVec.ofInt IntKind.u8.bits 128 ||| BitVec.ofInt IntKind.u8.bits (IntKind.u8.wrap ((BitVec.ofInt IntKind.u8.bits (IntKind.u8.wrap (c : Int)) &&& BitVec.ofInt IntKind.u8.bits 63).toNat : Int))).toNat : Int) = ((128 + c % 64 : Nat) : Int) := by
  have h1 := and63 ⟨c % 256, Nat.mod_lt _ (by omega)⟩
  simp only at h1
  rw [wrap8 c, h1, show c % 256 % 64 = c % 64 by omega]
  exact or128 ⟨c % 64, Nat.mod_lt _ (by omega)⟩

theorem zs_enc1 (n : Nat) (h : n < 256) : zs [UInt8.ofNat n] = [(n : Int)] := by simp only [zs, List.map_cons, List.map_nil, zs_nat n h]

theorem ar {R : Type} {c : Nat} (hv : vr c) (s : Str) (hl : Lim s) (k : List Int → Option R) : unicode_utf8_AppendRune_7b6c (zs s) (c : Int) k = k (zs (s ++ enc c)) := by
  have hlt := vr_lt hv
  unfold Lim at hl
  show unicode_utf8_AppendRune_7b6c_X unicode_utf8_appendRuneNonASCII_7b6c (zs s) (c : Int) k = _
  unfold unicode_utf8_AppendRune_7b6c_X
  rw [wrap32u hlt, zs_app]
  rcases enc_cases hv with ⟨h1, e⟩ | ⟨h0, h1, e⟩ | ⟨h0, h1, e⟩ | ⟨h0, e⟩
  · rw [dtrue (show (c : Int) ≤ 127 by omega), cond_true, chk_pos (dtrue (by rw [zs_len]; omega)), e, zs_enc1 c (by omega), wrap8, Nat.mod_eq_of_lt (by omega)]
  all_goals
    rw [dfalse (show ¬ (c : Int) ≤ 127 by omega), cond_false]
    show unicode_utf8_appendRuneNonASCII_7b6c_X (zs s) (c : Int) _ = _
    unfold unicode_utf8_appendRuneNonASCII_7b6c_X
    rw [wrap32u hlt, e]
    simp only [cont, shr _ 6 (by omega), shr _ 12 (by omega), shr _ 18 (by omega), zs_len]
  · rw [dtrue (show (c : Int) ≤ 2047 by omega), cond_true, chk_pos (dtrue (by omega))]
    have := or192 ⟨c / 64, by omega⟩
    simp only at this
    rw [show c / 2 ^ 6 = c / 64 from rfl, this]
    simp only [zs, List.map_cons, List.map_nil, zs_nat (192 + c / 64) (by omega), zs_nat (128 + c % 64) (by omega)]
  · rw [dfalse (show ¬ (c : Int) ≤ 2047 by omega), cond_false]
    unfold vr at hv
    by_cases h2 : c < 55296
    · rw [dtrue (show (c : Int) < 55296 by omega), cond_true, cond_true, chk_pos (dtrue (by omega))]
      have := or224 ⟨c / 4096, by omega⟩
      simp only at this
      rw [show c / 2 ^ 12 = c / 4096 from rfl, this]
      simp only [zs, List.map_cons, List.map_nil, zs_nat (224 + c / 4096) (by omega), zs_nat (128 + c % 64) (by omega), zs_nat (128 + c / 64 % 64) (by omega)]
    rw [dfalse (show ¬ (c : Int) < 55296 by omega), cond_false, dtrue (show (57343 : Int) < (c : Int) by omega), cond_true, dtrue (show (c : Int) ≤ 65535 by omega), cond_true, chk_pos (dtrue (by omega))]
    have := or224 ⟨c / 4096, by omega⟩
    simp only at this
    rw [show c / 2 ^ 12 = c / 4096 from rfl, this]
    simp only [zs, List.map_cons, List.map_nil, zs_nat (224 + c / 4096) (by omega), zs_nat (128 + c % 64) (by omega), zs_nat (128 + c / 64 % 64) (by omega)]
  · rw [dfalse (show ¬ (c : Int) ≤ 2047 by omega), cond_false]
    rw [dfalse (show ¬ (c : Int) < 55296 by omega), cond_false, dtrue (show (57343 : Int) < (c : Int) by omega), cond_true, dfalse (show ¬ (c : Int) ≤ 65535 by omega), cond_false,
      dtrue (show (c : Int) > 65535 by omega), cond_true, dtrue (show (c : Int) ≤ 1114111 by omega), cond_true, chk_pos (dtrue (by omega))]
    have := or240 ⟨c / 262144, by omega⟩
    simp only at this
    rw [show c / 2 ^ 18 = c / 262144 from rfl, this]
    simp only [zs, List.map_cons, List.map_nil, zs_nat (240 + c / 262144) (by omega), zs_nat (128 + c % 64) (by omega), zs_nat (128 + c / 64 % 64) (by omega), zs_nat (128 + c / 4096 % 64) (by omega)]

theorem wr {R : Type} {c : Nat} (hv : vr c) (s : Str) (hl : Lim s) (k : Int → List Int → Option R) : ∃ n : Int, strings_Builder_WriteRune_dc6e (c : Int) (zs s) k = k n (zs (s ++ enc c)) := by
  refine ⟨IntKind.i64.wrap (((zs (s ++ enc c)).length : Int) - ((zs s).length : Int)), ?_⟩
  show strings_Builder_WriteRune_dc6e_X unicode_utf8_AppendRune_7b6c (c : Int) (zs s) k = _
  unfold strings_Builder_WriteRune_dc6e_X
  rw [ar hv s hl]
end Go.Proofs.YtmlkkgfenfdndaaDoor

set_option linter.unusedVariables false
set_option maxRecDepth 100000
namespace Go.Proofs.YtmlkkgfenfdndaaDoor
open Go Go.Yard Go.Lib

def zeros (n : Nat) : Str := List.replicate n 48
theorem zeros_len (n : Nat) : (zeros n).length = n := List.length_replicate
theorem repeatL_zeros : ∀ n : Nat, repeatL [48] n = zeros n
  | 0 => rfl
  | n + 1 => by
    have := repeatL_zeros n
    simp [repeatL, zeros, List.replicate_succ] at this ⊢
    try exact this
theorem repS_zeros (z : Int) : repS [48] z = zeros z.toNat := repeatL_zeros _

def body (L : Str) (e : Int) : Str :=
  if 0 ≤ e then L ++ zeros e.toNat
  else
    let t := zeros (max 0 (1 - e - (L.length : Int))).toNat ++ L
    t.take ((t.length : Int) + e).toNat ++ [46] ++ t.drop ((t.length : Int) + e).toNat
def prt (d : Dcm) : Str := (if d.mant < 0 then [45] else []) ++ body (decDigits d.mant.natAbs) d.exp

theorem wsn {R : Type} (x : Str) (hx : x.length ≤ 100000000000) (k : Int → List Int → Option R) : strings_Builder_WriteString_fb8e x k = k (x.length : Int) (zs x) := by
  show chk (decide ((0 + (bytesN x).length) * 1 ≤ 140737488355328)) (k (x.length : Int) (bytesN x)) = _
  rw [zs_bytesN, chk_pos (dtrue (by rw [zs_len]; omega))]

theorem print_ok {R : Type} {d : Dcm} (h : Fm d) (k : Str → Option R) : decimal_Print d k = k (prt d) := by
  have b := h.bounds
  have e : decimal_Print d k = decimal_Print_X decimal_Right strings_Builder_WriteByte_b66c strings_Builder_WriteString_df1e strings_Builder_WriteString_fb8e d k := rfl
  rw [e]
  unfold decimal_Print_X
  rw [right_ok h, Bool.not_true, cond_false]
  have hL : itoaS (max d.mant (IntKind.i64.wrap (0 - d.mant))) = decDigits d.mant.natAbs := by
    rw [wrap_id (n := 0 - d.mant) (by omega) (by omega)]
    have hm : max d.mant (0 - d.mant) = (d.mant.natAbs : Int) := by omega
    rw [hm]
    exact itoa_nonneg _
  have hlen : (decDigits d.mant.natAbs).length ≤ 16 := by rw [decDigits_length]; exact digits16 (by omega)
  simp only [hL, repS_zeros]
  unfold prt
  generalize decDigits d.mant.natAbs = L at *
  have w1 : IntKind.i64.wrap (1 - d.exp) = 1 - d.exp := wrap_id (by omega) (by omega)
  have w2 : IntKind.i64.wrap (1 - d.exp - (L.length : Int)) = 1 - d.exp - (L.length : Int) := wrap_id (by omega) (by omega)
  rw [w1, w2]
  have one : (([48] : Str).length : Int) = 1 := rfl
  rw [one]
  have z0 : 0 ≤ max 0 (1 - d.exp - (L.length : Int)) := by omega
  have zl : max 0 (1 - d.exp - (L.length : Int)) ≤ 10 := by omega
  have zL : 1 - d.exp ≤ max 0 (1 - d.exp - (L.length : Int)) + L.length := by omega
  unfold body
  simp only
  generalize max 0 (1 - d.exp - (L.length : Int)) = z at *
  have tl : (zeros z.toNat ++ L).length = z.toNat + L.length := by rw [List.length_append, zeros_len]
  generalize zeros z.toNat ++ L = t at *
  have lapp : ∀ a b : Str, (a ++ b).length = a.length + b.length := fun a b => List.length_append
  have lone : ([46] : Str).length = 1 := rfl
  have e45 : ([45] : List Int) = zs [45] := rfl
  have q2 : ∀ (x : Int) (f : List Int → Option R), strings_Builder_WriteByte_b66c x f = f [x] := fun _ _ => rfl
  have lim45 : Lim [45] := by unfold Lim; simp
  by_cases he : 0 ≤ d.exp
  · rw [dtrue (show d.exp ≥ 0 from he), if_pos he]
    by_cases hm : d.mant < 0
    · rw [dtrue hm, if_pos hm]
      simp only [cond_true]
      rw [q2, chk_pos (by rw [dtrue (show 1 * d.exp ≤ 140737488355328 by omega)]; rfl), chk_pos (dtrue (by rw [zeros_len]; omega)), e45, ws _ _ (by rw [lapp, zeros_len]; omega) lim45, bstr_zs]
    · rw [dfalse hm, if_neg hm]
      simp only [cond_true, cond_false]
      rw [chk_pos (by rw [dtrue (show 1 * d.exp ≤ 140737488355328 by omega)]; rfl), chk_pos (dtrue (by rw [zeros_len]; omega)), wsn _ (by rw [lapp, zeros_len]; omega), bstr_zs]
      rfl
  · have wt : IntKind.i64.wrap ((t.length : Int) + d.exp) = (t.length : Int) + d.exp := wrap_id (by omega) (by omega)
    rw [dfalse (show ¬ d.exp ≥ 0 from he), if_neg he]
    simp only [wt, List.drop_zero, Nat.sub_zero, Int.toNat_natCast, cond_false]
    have l1 : (t.take ((t.length : Int) + d.exp).toNat).length ≤ t.length := by rw [List.length_take]; omega
    have l2 : (t.drop ((t.length : Int) + d.exp).toNat).length ≤ t.length := by rw [List.length_drop]; omega
    have c1 : (decide ((0 : Int) ≤ (t.length : Int) + d.exp) && decide ((t.length : Int) + d.exp ≤ (t.length : Int))) = true := by rw [dtrue (by omega), dtrue (by omega)]; rfl
    have c2 : (decide ((0 : Int) ≤ (t.length : Int)) && decide ((t.length : Int) ≤ (t.length : Int))) = true := by rw [dtrue (by omega), dtrue (by omega)]; rfl
    have c3 : (decide ((0 : Int) ≤ z) && decide (1 * z ≤ 140737488355328)) = true := by rw [dtrue z0, dtrue (by omega)]; rfl
    have et : (t.drop ((t.length : Int) + d.exp).toNat).take (t.length - ((t.length : Int) + d.exp).toNat) = t.drop ((t.length : Int) + d.exp).toNat := List.take_of_length_le (by rw [List.length_drop]; exact Nat.le_refl _)
    rw [et]
    by_cases hm : d.mant < 0
    · rw [dtrue hm, if_pos hm]
      simp only [cond_true]
      rw [q2, chk_pos c3, chk_pos (dtrue (by rw [zeros_len]; omega)), chk_pos c1, chk_pos (dtrue (by omega)), chk_pos (dtrue (by omega)), chk_pos c2, chk_pos c1, chk_pos (dtrue (by rw [lapp, lone]; omega)), e45, ws _ _ (by rw [lapp, lapp, lone]; omega) lim45, bstr_zs]
    · rw [dfalse hm, if_neg hm]
      simp only [cond_false]
      rw [chk_pos c3, chk_pos (dtrue (by rw [zeros_len]; omega)), chk_pos c1, chk_pos (dtrue (by omega)), chk_pos (dtrue (by omega)), chk_pos c2, chk_pos c1, chk_pos (dtrue (by rw [lapp, lone]; omega)), wsn _ (by rw [lapp, lapp, lone]; omega), bstr_zs]
      rfl
end Go.Proofs.YtmlkkgfenfdndaaDoor

set_option linter.unusedVariables false
set_option maxRecDepth 100000
namespace Go.Proofs.YtmlkkgfenfdndaaDoor
open Go Go.Yard Go.Lib

theorem band2 {p q : Prop} [Decidable p] [Decidable q] (hp : p) (hq : q) : (decide p && decide q) = true := by rw [dtrue hp, dtrue hq]; rfl

theorem take_pre : ∀ (p s : Str), (s.take p.length == p) = p.isPrefixOf s
  | [], s => by simp
  | a :: p, [] => by simp
  | a :: p, b :: s => by
    have := take_pre p s
    simp only [List.length_cons, List.take_succ_cons, List.isPrefixOf]
    rw [List.cons_beq_cons, this]
    congr 1
    exact Bool.beq_comm

theorem skip_ok {R : Type} (p s : Str) (hp : p.length ≤ 1000) (hs : s.length ≤ 9000000000000000000) (k : Bool → Str → Option R) :
    quote_reader_skip_e74a p s k = if p.isPrefixOf s then k true (s.drop p.length) else k false s := by
  have e1 : ∀ f : Str → Bool → Option R, strings_CutPrefix s p f = internal_stringslite_CutPrefix s p f := fun _ => rfl
  show strings_CutPrefix s p (fun y3 y4 => k y4 y3) = _
  rw [e1]
  show internal_stringslite_CutPrefix_X internal_stringslite_HasPrefix s p (fun y3 y4 => k y4 y3) = _
  unfold internal_stringslite_CutPrefix_X
  have e2 : ∀ f : Bool → Option R, internal_stringslite_HasPrefix s p f = f (p.isPrefixOf s) := by
    intro f
    show internal_stringslite_HasPrefix_X s p f = _
    unfold internal_stringslite_HasPrefix_X
    by_cases h : p.length ≤ s.length
    · rw [dtrue (show (s.length : Int) ≥ (p.length : Int) by omega), cond_true, chk_pos (by rw [dtrue (show (0 : Int) ≤ (p.length : Int) by omega)]; rfl), chk_pos (dtrue (by omega))]
      rw [List.drop_zero, Int.toNat_natCast, Nat.sub_zero, take_pre]
    · rw [dfalse (show ¬ (s.length : Int) ≥ (p.length : Int) by omega), cond_false]
      congr 1
      rw [← take_pre]
      symm
      rw [beq_eq_false_iff_ne]
      intro e
      have := congrArg List.length e
      rw [List.length_take] at this
      omega
  rw [e2]
  cases hp2 : p.isPrefixOf s with
  | false => simp
  | true =>
    have hle : p.length ≤ s.length := (List.IsPrefix.length_le (List.isPrefixOf_iff_prefix.1 hp2))
    rw [Bool.not_true, cond_false, chk_pos (band2 (by omega) (by omega)), chk_pos (band2 (by omega) (by omega))]
    simp only [Int.toNat_natCast, if_true]
    rw [List.take_of_length_le (by rw [List.length_drop]; exact Nat.le_refl _)]

theorem decRune_eq {s : Str} (h : s ≠ []) : decRune s = decodeL s := by
  unfold decRune
  have : s.isEmpty = false := by cases s with | nil => exact (h rfl).elim | cons _ _ => rfl
  rw [this]
  rfl

def plainP (s : Str) : Option (Nat × Str) :=
  if s = [] then none else if (decodeL s).1 = 65533 ∧ (decodeL s).2 = 1 then none else if (decodeL s).1 < 32 then none else some ((decodeL s).1, s.drop (decodeL s).2)

theorem plain_ok {R : Type} (s : Str) (hs : s.length ≤ 9000000000000000000) (k : Int → Str → Option R) :
    quote_reader_plain_abbd s k = match plainP s with | some (c, r) => k (c : Int) r | none => k (-1) s := by
  show quote_reader_plain_abbd_X s k = _
  unfold quote_reader_plain_abbd_X
  by_cases h0 : s = []
  · subst h0; rfl
  rw [decRune_eq h0]
  have hw := decodeL_width s
  have hle := decodeL_le s h0
  have hj : (chk (decide ((0 : Int) ≤ (s.length : Int)) && decide ((s.length : Int) ≤ s.length)) (chk (decide ((0 : Int) ≤ ((decodeL s).2 : Int)) && decide (((decodeL s).2 : Int) ≤ (s.length : Int))) (k ((decodeL s).1 : Int) ((s.drop ((decodeL s).2 : Int).toNat).take ((s.length : Int).toNat - ((decodeL s).2 : Int).toNat))))) = k ((decodeL s).1 : Int) (s.drop (decodeL s).2) := by
    rw [chk_pos (band2 (by omega) (by omega)), chk_pos (band2 (by omega) (by omega)), Int.toNat_natCast, Int.toNat_natCast, List.take_of_length_le (by rw [List.length_drop]; exact Nat.le_refl _)]
  simp only [hj]
  unfold plainP
  rw [if_neg h0]
  by_cases h1 : (decodeL s).1 = 65533
  · have e1 : (((decodeL s).1 : Int) == 65533) = true := by rw [h1]; rfl
    rw [e1, cond_true]
    by_cases h2 : (decodeL s).2 = 1
    · rw [dtrue (show ((decodeL s).2 : Int) < 2 by omega), cond_true, if_pos ⟨h1, h2⟩]
    · rw [dfalse (show ¬ ((decodeL s).2 : Int) < 2 by omega), cond_false, dfalse (show ¬ ((decodeL s).1 : Int) < 32 by omega), cond_false, if_neg (fun h => h2 h.2), if_neg (by omega)]
  · have e1 : (((decodeL s).1 : Int) == 65533) = false := by rw [beq_eq_false_iff_ne]; omega
    rw [e1, cond_false, if_neg (fun h => h1 h.1)]
    by_cases h3 : (decodeL s).1 < 32
    · rw [dtrue (show ((decodeL s).1 : Int) < 32 by omega), cond_true, if_pos h3]
    · rw [dfalse (show ¬ ((decodeL s).1 : Int) < 32 by omega), cond_false, if_neg h3]

def hexv (b : UInt8) : Option Nat :=
  let n := b.toNat
  if 48 ≤ n ∧ n ≤ 57 then some (n - 48) else if 65 ≤ n ∧ n ≤ 70 then some (n - 55) else if 97 ≤ n ∧ n ≤ 102 then some (n - 87) else none
def hexN : Str → Nat → Option Nat
  | [], v => some v
  | b :: t, v => match hexv b with | some d => hexN t (16 * v + d) | none => none

def lowI (b : Int) : Int := IntKind.u8.wrap ((BitVec.ofInt IntKind.u8.bits b ||| BitVec.ofInt IntKind.u8.bits 32).toNat : Int)

def hexB (b : Nat) : Bool :=
  (!(decide (48 ≤ b) && decide (b ≤ 57)) || decide (IntKind.u8.wrap ((b : Int) - 48) = ((b - 48 : Nat) : Int))) &&
  (!(decide ((97 : Int) ≤ lowI b) && decide (lowI b ≤ 122)) || (!(decide (48 ≤ b) && decide (b ≤ 57)) && decide (b ≠ 95) && decide (IntKind.u8.wrap ((IntKind.u8.wrap (lowI b - 97)) + 10) = lowI b - 87) &&
    (!decide (lowI b - 87 < 16) || ((decide (65 ≤ b) && decide (b ≤ 70) && decide (lowI b - 87 = ((b - 55 : Nat) : Int))) || (decide (97 ≤ b) && decide (b ≤ 102) && decide (lowI b - 87 = ((b - 87 : Nat) : Int))))) &&
    (!decide (16 ≤ lowI b - 87) || (!(decide (65 ≤ b) && decide (b ≤ 70)) && !(decide (97 ≤ b) && decide (b ≤ 102)))))) &&
  ((decide ((97 : Int) ≤ lowI b) && decide (lowI b ≤ 122)) || (!(decide (65 ≤ b) && decide (b ≤ 70)) && !(decide (97 ≤ b) && decide (b ≤ 102))))
theorem hexB_all : ∀ b : Fin 256, hexB b.val = true := by decide +kernel
theorem hex_fact (b : Nat) (hb : b < 256) :
    ((48 ≤ b ∧ b ≤ 57) → IntKind.u8.wrap ((b : Int) - 48) = ((b - 48 : Nat) : Int)) ∧
    ((97 : Int) ≤ lowI b → lowI b ≤ 122 → ¬ (48 ≤ b ∧ b ≤ 57) ∧ b ≠ 95 ∧ IntKind.u8.wrap ((IntKind.u8.wrap (lowI b - 97)) + 10) = lowI b - 87 ∧
      (lowI b - 87 < 16 → ((65 ≤ b ∧ b ≤ 70) ∧ lowI b - 87 = ((b - 55 : Nat) : Int)) ∨ ((97 ≤ b ∧ b ≤ 102) ∧ lowI b - 87 = ((b - 87 : Nat) : Int))) ∧
      (16 ≤ lowI b - 87 → ¬ (65 ≤ b ∧ b ≤ 70) ∧ ¬ (97 ≤ b ∧ b ≤ 102))) ∧
    (¬ ((97 : Int) ≤ lowI b ∧ lowI b ≤ 122) → ¬ (65 ≤ b ∧ b ≤ 70) ∧ ¬ (97 ≤ b ∧ b ≤ 102)) := by
  have h := hexB_all ⟨b, hb⟩
  unfold hexB at h
  generalize lowI (b : Int) = l at *
  simp only [Bool.and_eq_true, Bool.or_eq_true, Bool.not_eq_true', Bool.and_eq_false_iff, decide_eq_true_eq, decide_eq_false_iff_not] at h
  obtain ⟨⟨h1, h2⟩, h3⟩ := h
  refine ⟨fun q => ?_, fun q1 q2 => ?_, fun q => ?_⟩
  · rcases h1 with h1 | h1
    · omega
    · exact h1
  · rcases h2 with h2 | ⟨⟨⟨⟨g1, g2⟩, g3⟩, g4⟩, g5⟩
    · omega
    · refine ⟨by omega, g2, g3, fun q => ?_, fun q => ?_⟩
      · rcases g4 with g4 | g4
        · omega
        · rcases g4 with ⟨⟨k1, k2⟩, k3⟩ | ⟨⟨k1, k2⟩, k3⟩
          · exact .inl ⟨⟨k1, k2⟩, k3⟩
          · exact .inr ⟨⟨k1, k2⟩, k3⟩
      · rcases g5 with g5 | ⟨k1, k2⟩
        · omega
        · exact ⟨by omega, by omega⟩
  · rcases h3 with h3 | ⟨k1, k2⟩
    · omega
    · exact ⟨by omega, by omega⟩

theorem hexv_lt {b : UInt8} {d : Nat} (h : hexv b = some d) : d < 16 := by
  unfold hexv at h
  simp only at h
  split at h
  · cases h; omega
  · split at h
    · cases h; omega
    · split at h
      · cases h; omega
      · cases h

theorem u64w {n : Int} (h0 : 0 ≤ n) (h : n ≤ 18446744073709551615) : IntKind.u64.wrap n = n := by
  simp only [IntKind.wrap, IntKind.bits, IntKind.signed]
  simp
  omega

theorem uint_round {R : Type} {s x22 : Str} {i v : Nat} (hi : i < s.length) (hs : s.length ≤ 1000) (hv : v < 4096) (rec' : Int → Bool → Str → Int → Int → Bool → Int → Nat → Int → Int → (List Int) → Option R) (e0 : Str → Bool → Int → Option R) (e1 e2 : Int → Str → Bool → Int → Option R) (e3 : Int → Str → Bool → Option R) :
    internal_strconv_ParseUint_36_0_B internal_strconv_lower rec' 16 false x22 1152921504606846976 65535 false (v : Int) s.length (s.length : Int) (i : Int) (bytesN s) e0 e1 e2 e3 =
      match hexv (s[i]) with
      | some d => rec' 16 false x22 1152921504606846976 65535 false ((16 * v + d : Nat) : Int) s.length (s.length : Int) ((i + 1 : Nat) : Int) (bytesN s)
      | none => e1 0 x22 false (v : Int) := by
  unfold internal_strconv_ParseUint_36_0_B
  have hlow : ∀ (n : Int) (f : Int → Option R), internal_strconv_lower n f = f (lowI n) := fun _ _ => rfl
  have hget : (bytesN s).getD (i : Int).toNat (Ty.dflt (.int .u8)) = (s[i].toNat : Int) := by
    rw [Int.toNat_natCast]
    show (s.map fun b => (b.toNat : Int)).getD i _ = _
    simp [List.getD, hi]
    rfl
  rw [dtrue (show (i : Int) < (s.length : Int) by omega), cond_true, chk_pos (by rw [dtrue (show (0 : Int) ≤ (i : Int) by omega)]; rfl),
    chk_pos (dtrue (by rw [Int.toNat_natCast, zs_bytesN, zs_len]; exact hi))]
  simp only [hget, hlow]
  obtain ⟨f1, f2, f3⟩ := hex_fact s[i].toNat (UInt8.toNat_lt _)
  have hb := UInt8.toNat_lt s[i]
  generalize hbn : s[i].toNat = b at *
  have hw16 : IntKind.u8.wrap 16 = 16 := by decide
  have hw64 : IntKind.u64.wrap 16 = 16 := by decide
  have hi1 : IntKind.i64.wrap ((i : Int) + 1) = ((i + 1 : Nat) : Int) := by rw [wrap_id (by omega) (by omega)]; omega
  -- a digit's value, if it is below 16
  have fit : ∀ d : Nat, d < 16 → ∀ z : Int, z = (d : Int) → (bif (decide (z ≥ (IntKind.u8.wrap 16))) then (e1 0 x22 false (v : Int)) else (bif (decide ((v : Int) ≥ 1152921504606846976)) then (e2 65535 x22 false (v : Int)) else (bif (decide ((IntKind.u64.wrap ((IntKind.u64.wrap ((v : Int) * (IntKind.u64.wrap 16))) + (IntKind.u64.wrap z))) < (IntKind.u64.wrap ((v : Int) * (IntKind.u64.wrap 16))))) then (e2 65535 x22 false (IntKind.u64.wrap ((v : Int) * (IntKind.u64.wrap 16)))) else (bif (decide ((IntKind.u64.wrap ((IntKind.u64.wrap ((v : Int) * (IntKind.u64.wrap 16))) + (IntKind.u64.wrap z))) > 65535)) then (e2 65535 x22 false (IntKind.u64.wrap ((v : Int) * (IntKind.u64.wrap 16)))) else (rec' 16 false x22 1152921504606846976 65535 false (IntKind.u64.wrap ((IntKind.u64.wrap ((v : Int) * (IntKind.u64.wrap 16))) + (IntKind.u64.wrap z))) s.length (s.length : Int) (IntKind.i64.wrap ((i : Int) + 1)) (bytesN s)))))) =
      rec' 16 false x22 1152921504606846976 65535 false ((16 * v + d : Nat) : Int) s.length (s.length : Int) ((i + 1 : Nat) : Int) (bytesN s) := by
    intro d hd z hz
    subst hz
    have k1 : IntKind.u64.wrap ((v : Int) * 16) = (v : Int) * 16 := u64w (by omega) (by omega)
    have k2 : IntKind.u64.wrap (d : Int) = d := u64w (by omega) (by omega)
    have k3 : IntKind.u64.wrap ((v : Int) * 16 + (d : Int)) = (v : Int) * 16 + (d : Int) := u64w (by omega) (by omega)
    rw [hw16, hw64, k1, k2, k3, hi1, dfalse (show ¬ (d : Int) ≥ 16 by omega), cond_false, dfalse (show ¬ (v : Int) ≥ 1152921504606846976 by omega), cond_false, dfalse (show ¬ (v : Int) * 16 + (d : Int) < (v : Int) * 16 by omega), cond_false,
      dfalse (show ¬ (v : Int) * 16 + (d : Int) > 65535 by omega), cond_false]
    have : (v : Int) * 16 + (d : Int) = ((16 * v + d : Nat) : Int) := by omega
    rw [this]
  rw [cond_false, Bool.cond_self]
  unfold hexv
  simp only [hbn]
  by_cases h1 : 48 ≤ b ∧ b ≤ 57
  · rw [dtrue (show (48 : Int) ≤ (b : Int) by omega), cond_true, dtrue (show (b : Int) ≤ 57 by omega), cond_true, if_pos h1]
    exact fit (b - 48) (by omega) _ (f1 h1)
  · rw [if_neg h1]
    have h48 : ∀ x z : Option R, (bif (decide ((48 : Int) ≤ (b : Int))) then (bif (decide ((b : Int) ≤ (57 : Int))) then x else z) else z) = z := by
      intro x z
      by_cases h : (48 : Int) ≤ (b : Int)
      · rw [dtrue h, cond_true, dfalse (show ¬ (b : Int) ≤ 57 by omega), cond_false]
      · rw [dfalse h, cond_false]
    simp only [cond_false]
    rw [h48]
    by_cases h2 : (97 : Int) ≤ lowI b
    · rw [dtrue h2, cond_true]
      by_cases h3 : lowI b ≤ 122
      · rw [dtrue h3, cond_true]
        obtain ⟨_, _, g1, g2, g3⟩ := f2 h2 h3
        rw [g1]
        by_cases h4 : lowI b - 87 < 16
        · rcases g2 h4 with ⟨q1, q2⟩ | ⟨q1, q2⟩
          · rw [if_pos q1]
            exact fit (b - 55) (by omega) _ q2
          · rw [if_neg (by omega), if_pos q1]
            exact fit (b - 87) (by omega) _ q2
        · obtain ⟨q1, q2⟩ := g3 (by omega)
          rw [hw16, dtrue (show lowI b - 87 ≥ 16 by omega), cond_true, if_neg q1, if_neg q2]
      · rw [dfalse h3, cond_false]
        obtain ⟨q1, q2⟩ := f3 (by omega)
        rw [if_neg q1, if_neg q2]
    · rw [dfalse h2, cond_false]
      obtain ⟨q1, q2⟩ := f3 (by omega)
      rw [if_neg q1, if_neg q2]

theorem hexN_step (s : Str) (i v : Nat) (hi : i < s.length) : hexN (s.drop i) v = match hexv s[i] with | some d => hexN (s.drop (i + 1)) (16 * v + d) | none => none := by
  rw [List.drop_eq_getElem_cons hi]
  rfl

theorem uint_loop {R : Type} {s x22 : Str} (hs : s.length ≤ 4) (e0 : Str → Bool → Int → Option R) (e1 e2 : Int → Str → Bool → Int → Option R) (e3 : Int → Str → Bool → Option R) : ∀ (n i v : Nat), s.length - i < n → i ≤ s.length → v < 16 ^ i →
    (match hexN (s.drop i) v with
     | some u => internal_strconv_ParseUint_36_0_L n 16 false x22 1152921504606846976 65535 false (v : Int) s.length (s.length : Int) (i : Int) (bytesN s) e0 e1 e2 e3 = e0 x22 false (u : Int)
     | none => ∃ w, internal_strconv_ParseUint_36_0_L n 16 false x22 1152921504606846976 65535 false (v : Int) s.length (s.length : Int) (i : Int) (bytesN s) e0 e1 e2 e3 = e1 0 x22 false w) := by
  intro n
  induction n with
  | zero => intro i v h; omega
  | succ n ih =>
    intro i v h hi hv
    by_cases hlt : i < s.length
    · have hv2 : v < 4096 := by
        have : 16 ^ i ≤ 16 ^ 3 := Nat.pow_le_pow_right (by omega) (by omega)
        have e : (16 : Nat) ^ 3 = 4096 := rfl
        omega
      have hr := uint_round (R := R) (x22 := x22) hlt (by omega) hv2 (fun x0' x1' x2' x3' x4' x5' x6' x7' x8' x9' x10' => internal_strconv_ParseUint_36_0_L n x0' x1' x2' x3' x4' x5' x6' x7' x8' x9' x10' e0 e1 e2 e3) e0 e1 e2 e3
      have hL : internal_strconv_ParseUint_36_0_L (n + 1) 16 false x22 1152921504606846976 65535 false (v : Int) s.length (s.length : Int) (i : Int) (bytesN s) e0 e1 e2 e3 =
        internal_strconv_ParseUint_36_0_B internal_strconv_lower (fun x0' x1' x2' x3' x4' x5' x6' x7' x8' x9' x10' => internal_strconv_ParseUint_36_0_L n x0' x1' x2' x3' x4' x5' x6' x7' x8' x9' x10' e0 e1 e2 e3) 16 false x22 1152921504606846976 65535 false (v : Int) s.length (s.length : Int) (i : Int) (bytesN s) e0 e1 e2 e3 := rfl
      rw [hL, hr, hexN_step s i v hlt]
      cases hx : hexv s[i] with
      | none => exact ⟨_, rfl⟩
      | some d =>
        have hd := hexv_lt hx
        have : (16 : Nat) ^ (i + 1) = 16 ^ i * 16 := Nat.pow_succ ..
        exact ih (i + 1) (16 * v + d) (by omega) (by omega) (by omega)
    · have e : s.drop i = [] := List.drop_eq_nil_of_le (by omega)
      rw [e]
      simp only [hexN]
      show internal_strconv_ParseUint_36_0_B internal_strconv_lower _ 16 false x22 1152921504606846976 65535 false (v : Int) s.length (s.length : Int) (i : Int) (bytesN s) e0 e1 e2 e3 = _
      unfold internal_strconv_ParseUint_36_0_B
      rw [dfalse (show ¬ (i : Int) < (s.length : Int) by omega), cond_false]

end Go.Proofs.YtmlkkgfenfdndaaDoor

set_option linter.unusedVariables false
set_option maxRecDepth 100000
namespace Go.Proofs.YtmlkkgfenfdndaaDoor
open Go Go.Yard Go.Lib

theorem parse4 {R : Type} {s : Str} (hs : s.length = 4) (k0 k1 : Int → Option R) : strconv_ParseUint s 16 16 k0 k1 = match hexN s 0 with | some u => k1 (u : Int) | none => k0 0 := by
  show strconv_ParseUint_X internal_strconv_ParseUint s 16 16 k0 k1 = _
  unfold strconv_ParseUint_X
  show internal_strconv_ParseUint_X internal_strconv_lower internal_strconv_underscoreOK internal_strconv_ParseUint_36_0_L s 16 16 _ _ _ _ _ = _
  unfold internal_strconv_ParseUint_X
  have h1 : (s == ([] : Str)) = false := by rw [beq_eq_false_iff_ne]; rintro rfl; simp at hs
  rw [h1, cond_false]
  have c1 : decide ((2 : Int) ≤ 16) = true := by decide
  have c2 : decide ((16 : Int) ≤ 36) = true := by decide
  have c3 : ((16 : Int) == 0) = false := by decide
  have c4 : decide ((16 : Int) < 0) = false := by decide
  have c5 : decide ((16 : Int) > 64) = false := by decide
  have c6 : ((16 : Int) == 10) = false := by decide
  have c7 : ((16 : Int) == 16) = true := by decide
  have c8 : decide ((0 : Int) ≤ IntKind.u64.wrap 16) = true := by decide
  have c9 : (IntKind.u64.wrap ((IntKind.u64.wrap (1 * 2 ^ (min ((IntKind.u64.wrap 16).toNat) IntKind.u64.bits))) - 1)) = 65535 := by decide +kernel
  dsimp only
  rw [c1, cond_true, c2, cond_true, c3, cond_false, c4, cond_false, c5, cond_false, c6, cond_false, c7, cond_true]
  rw [c8, chk_pos rfl, c9]
  have hb : decide (s.length ≤ 281474976710656) = true := dtrue (by omega)
  have key := fun (n : Nat) (hn : 4 < n) (e0 : Str → Bool → Int → Option R) (e1 e2 : Int → Str → Bool → Int → Option R) (e3 : Int → Str → Bool → Option R) => uint_loop (R := R) (s := s) (x22 := s) (by omega) e0 e1 e2 e3 n 0 0 (by omega) (by omega) (by omega)
  have z0 : (((0 : Nat) : Int)) = 0 := rfl
  simp only [List.drop_zero, z0] at key
  cases hx : hexN s 0 with
  | some u =>
    simp only [hx] at key
    rw [key _ (by omega)]
    rfl
  | none =>
    simp only [hx] at key
    generalize hF : (Int.natAbs 16 + List.length s + Int.natAbs 1152921504606846976 + Int.natAbs 65535 + Int.natAbs 0 + Int.natAbs (s.length : Int) + Int.natAbs 0 + List.length (bytesN s) + 64) = F at *
    obtain ⟨w, hw⟩ := key F (by rw [← hF]; omega) _ _ _ _
    rw [hw, chk_pos (by rfl), hb, chk_pos rfl]
end Go.Proofs.YtmlkkgfenfdndaaDoor

set_option linter.unusedVariables false
set_option maxRecDepth 100000
namespace Go.Proofs.YtmlkkgfenfdndaaDoor
open Go Go.Yard Go.Lib

theorem hexN_bound : ∀ (l : Str) (v u : Nat), hexN l v = some u → u < (v + 1) * 16 ^ l.length
  | [], v, u, h => by cases h; simp
  | b :: t, v, u, h => by
    simp only [hexN] at h
    cases hx : hexv b with
    | none => rw [hx] at h; cases h
    | some d =>
      rw [hx] at h
      have h1 := hexN_bound t _ _ h
      have hd := hexv_lt hx
      have h2 : (16 * v + d + 1) * 16 ^ t.length ≤ ((v + 1) * 16) * 16 ^ t.length := Nat.mul_le_mul_right _ (by omega)
      rw [List.length_cons, Nat.pow_succ]
      have h3 : (v + 1) * 16 * 16 ^ t.length = (v + 1) * (16 ^ t.length * 16) := by rw [Nat.mul_assoc, Nat.mul_comm 16]
      omega
theorem hexN_all : ∀ (l : Str) (v u : Nat), hexN l v = some u → ∀ b ∈ l, (hexv b).isSome = true
  | [], v, u, h => by simp
  | b :: t, v, u, h => by
    simp only [hexN] at h
    cases hx : hexv b with
    | none => rw [hx] at h; cases h
    | some d =>
      rw [hx] at h
      intro c hc
      rcases List.mem_cons.1 hc with rfl | hc
      · rw [hx]; rfl
      · exact hexN_all t _ _ h c hc
theorem hexv_asc {b : UInt8} (h : (hexv b).isSome = true) : b.toNat < 128 ∧ b.toNat ≠ 43 ∧ b.toNat ≠ 45 ∧ b.toNat ≠ 95 := by
  unfold hexv at h
  simp only at h
  revert h
  (repeat' split) <;> intro h <;> first | omega | cases h

theorem hasAny_none (cs : Str) : ∀ s : Str, (∀ b ∈ s, cs.contains b = false) → hasAny s cs = false := by
  have key : ∀ s : Str, (∀ b ∈ s, cs.contains b = false) → indexAny s cs = -1 := by
    intro s
    induction s with
    | nil => intro _; rfl
    | cons b s ih =>
      intro h
      unfold indexAny
      rw [h b (by simp)]
      have := ih fun x hx => h x (by simp [hx])
      simp [this]
  intro s h
  unfold hasAny containsAny
  rw [key s h]
  rfl

def unitP (s : Str) : Option (Nat × Str) := if s.length < 4 then none else match hexN (s.take 4) 0 with | some v => some (v, s.drop 4) | none => none
theorem unitP_lt {s r : Str} {v : Nat} (h : unitP s = some (v, r)) : v < 65536 ∧ 4 ≤ s.length ∧ r = s.drop 4 := by
  unfold unitP at h
  split at h
  · cases h
  · rename_i hl
    split at h
    · rename_i u hu
      cases h
      have := hexN_bound _ _ _ hu
      rw [List.length_take, Nat.min_eq_left (by omega)] at this
      exact ⟨by omega, by omega, rfl⟩
    · cases h

theorem wrap32s {n : Nat} (h : n < 1114112) : IntKind.i32.wrap (n : Int) = (n : Int) := wrap32_id (by omega) (by omega)

theorem unit_ok {R : Type} (s : Str) (hs : s.length ≤ 9000000000000000000) (k : Int → Str → Option R) :
    quote_reader_unit_abbd s k = match unitP s with | some (v, r) => k (v : Int) r | none => k (-1) s := by
  show quote_reader_unit_abbd_X strconv_ParseUint s k = _
  unfold quote_reader_unit_abbd_X
  by_cases hl : s.length < 4
  · rw [dtrue (show (s.length : Int) < 4 by omega), cond_true]
    unfold unitP
    rw [if_pos hl]
  · rw [dfalse (show ¬ (s.length : Int) < 4 by omega), cond_false, chk_pos (dtrue (by omega))]
    have h4 : (s.drop 0).take (4 - 0) = s.take 4 := rfl
    rw [h4, parse4 (by rw [List.length_take]; omega)]
    unfold unitP
    rw [if_neg hl]
    cases hu : hexN (s.take 4) 0 with
    | none => rfl
    | some v =>
      have hall := hexN_all _ _ _ hu
      have hasc : isAsc (s.take 4) = true := List.all_eq_true.2 fun b hb => dtrue (hexv_asc (hall b hb)).1
      have hno : hasAny (s.take 4) [43, 45, 95] = false := hasAny_none _ _ fun b hb => by
        obtain ⟨_, g1, g2, g3⟩ := hexv_asc (hall b hb)
        have e : ∀ x : UInt8, b.toNat ≠ x.toNat → (b == x) = false := fun x hx => by
          rw [beq_eq_false_iff_ne]; rintro rfl; exact hx rfl
        simp only [List.contains_cons, List.contains_nil, e 43 g1, e 45 g2, e 95 g3]
        rfl
      have hv := (unitP_lt (s := s) (r := s.drop 4) (v := v) (by unfold unitP; rw [if_neg hl, hu])).1
      have hb2 : isAsc ([43, 45, 95] : Str) = true := by decide
      simp only
      rw [chk_pos (by rw [hasc, hb2, dtrue (show (s.take 4).length < 4294967281 by rw [List.length_take]; omega)]; rfl), hno, cond_false, chk_pos (by rw [dtrue (show (0 : Int) ≤ (s.length : Int) by omega), dtrue (show (s.length : Int) ≤ s.length by omega)]; rfl), chk_pos (dtrue (by omega))]
      rw [wrap32s (by omega), Int.toNat_natCast, List.take_of_length_le (by rw [List.length_drop]; exact Nat.le_refl _)]

def longP (s : Str) : Option (Nat × Str) :=
  match unitP s with
  | none => none
  | some (v, r) =>
    if v < 55296 ∨ 57344 ≤ v then some (v, r) else if 56320 ≤ v then none
    else if ([92, 117] : Str).isPrefixOf r then
      match unitP (r.drop 2) with
      | none => none
      | some (w, r2) => if 56320 ≤ w ∧ w < 57344 then some (65536 + (v - 55296) * 1024 + (w - 56320), r2) else none
    else none

theorem shl10 (n : Nat) (h : n < 1024) : IntKind.i32.wrap ((n : Int) * 2 ^ (min 10 IntKind.i32.bits)) = ((n * 1024 : Nat) : Int) := by
  have e : (n : Int) * 2 ^ (min 10 IntKind.i32.bits) = ((n * 1024 : Nat) : Int) := by
    show (n : Int) * 2 ^ 10 = _
    omega
  rw [e, wrap32s (by omega)]

theorem long_ok {R : Type} (s : Str) (hs : s.length ≤ 9000000000000000000) (k : Int → Str → Option R) :
    match longP s with | some (c, r) => quote_reader_long_abbd s k = k (c : Int) r | none => ∃ r, quote_reader_long_abbd s k = k (-1) r := by
  have e0 : quote_reader_long_abbd s k = quote_reader_long_abbd_X quote_reader_skip_e74a quote_reader_unit_abbd s k := rfl
  rw [e0]
  unfold quote_reader_long_abbd_X
  rw [unit_ok s hs]
  unfold longP
  cases hu : unitP s with
  | none =>
    simp only
    exact ⟨s, by rw [dtrue (show (-1 : Int) < 55296 by omega), cond_true]⟩
  | some p =>
    obtain ⟨v, r⟩ := p
    obtain ⟨hv, hl, hr⟩ := unitP_lt hu
    have hrl : r.length ≤ 9000000000000000000 := by rw [hr, List.length_drop]; omega
    simp only
    by_cases h1 : v < 55296
    · rw [if_pos (.inl h1), dtrue (show (v : Int) < 55296 by omega)]
      simp only [cond_true]
    rw [dfalse (show ¬ (v : Int) < 55296 by omega), cond_false]
    by_cases h2 : 57344 ≤ v
    · rw [if_pos (.inr h2), dtrue (show (v : Int) ≥ 57344 by omega)]
      simp only [cond_true]
    rw [if_neg (by omega), dfalse (show ¬ (v : Int) ≥ 57344 by omega), cond_false]
    by_cases h3 : 56320 ≤ v
    · rw [if_pos h3]
      exact ⟨r, by rw [dtrue (show (v : Int) ≥ 56320 by omega), cond_true]⟩
    rw [if_neg h3, dfalse (show ¬ (v : Int) ≥ 56320 by omega), cond_false, skip_ok _ _ (by simp) hrl]
    cases hp : ([92, 117] : Str).isPrefixOf r with
    | false =>
      simp only [Bool.false_eq_true, if_false]
      exact ⟨r, rfl⟩
    | true =>
      simp only [if_true]
      have hrl2 : (r.drop 2).length ≤ 9000000000000000000 := by rw [List.length_drop]; omega
      have e2 : r.drop ([92, 117] : Str).length = r.drop 2 := rfl
      rw [Bool.not_true, cond_false, e2, unit_ok _ hrl2]
      cases hu2 : unitP (r.drop 2) with
      | none =>
        simp only
        exact ⟨r.drop 2, by rw [dtrue (show (-1 : Int) < 56320 by omega), cond_true]⟩
      | some q =>
        obtain ⟨w, r2⟩ := q
        obtain ⟨hw, hl2, hr2⟩ := unitP_lt hu2
        simp only
        by_cases h4 : 56320 ≤ w ∧ w < 57344
        · rw [if_pos h4]
          simp only
          rw [dfalse (show ¬ (w : Int) < 56320 by omega), cond_false, dfalse (show ¬ (w : Int) ≥ 57344 by omega), cond_false]
          have k1 : IntKind.i32.wrap ((v : Int) - 55296) = ((v - 55296 : Nat) : Int) := by
            have : (v : Int) - 55296 = ((v - 55296 : Nat) : Int) := by omega
            rw [this, wrap32s (by omega)]
          rw [k1, shl10 _ (by omega)]
          have k2 : IntKind.i32.wrap (65536 + (((v - 55296) * 1024 : Nat) : Int)) = ((65536 + (v - 55296) * 1024 : Nat) : Int) := by
            have : 65536 + (((v - 55296) * 1024 : Nat) : Int) = ((65536 + (v - 55296) * 1024 : Nat) : Int) := by omega
            rw [this, wrap32s (by omega)]
          have k3 : IntKind.i32.wrap (((65536 + (v - 55296) * 1024 : Nat) : Int) + (w : Int)) = ((65536 + (v - 55296) * 1024 + w : Nat) : Int) := by
            have : ((65536 + (v - 55296) * 1024 : Nat) : Int) + (w : Int) = ((65536 + (v - 55296) * 1024 + w : Nat) : Int) := by omega
            rw [this]
            simp only [IntKind.wrap, IntKind.bits, IntKind.signed]
            simp
            omega
          have k4 : IntKind.i32.wrap (((65536 + (v - 55296) * 1024 + w : Nat) : Int) - 56320) = ((65536 + (v - 55296) * 1024 + (w - 56320) : Nat) : Int) := by
            have : ((65536 + (v - 55296) * 1024 + w : Nat) : Int) - 56320 = ((65536 + (v - 55296) * 1024 + (w - 56320) : Nat) : Int) := by omega
            rw [this, wrap32s (by omega)]
          rw [k2, k3, k4]
        · rw [if_neg h4]
          refine ⟨r2, ?_⟩
          by_cases h5 : w < 56320
          · rw [dtrue (show (w : Int) < 56320 by omega), cond_true]
          · rw [dfalse (show ¬ (w : Int) < 56320 by omega), cond_false, dtrue (show (w : Int) ≥ 57344 by omega), cond_true]

def escP : Str → Option (Nat × Str)
  | [] => none
  | b :: t =>
    if b.toNat = 34 ∨ b.toNat = 92 ∨ b.toNat = 47 then some (b.toNat, t) else if b.toNat = 98 then some (8, t) else if b.toNat = 102 then some (12, t) else if b.toNat = 110 then some (10, t)
    else if b.toNat = 114 then some (13, t) else if b.toNat = 116 then some (9, t) else if b.toNat = 117 then longP t else none

theorem esc_ok {R : Type} (s : Str) (hs : s.length ≤ 9000000000000000000) (k : Int → Str → Option R) :
    match escP s with | some (c, r) => quote_reader_escaped_abbd s k = k (c : Int) r | none => ∃ r, quote_reader_escaped_abbd s k = k (-1) r := by
  have e0 : quote_reader_escaped_abbd s k = quote_reader_escaped_abbd_X quote_reader_long_abbd s k := rfl
  rw [e0]
  unfold quote_reader_escaped_abbd_X
  cases s with
  | nil => exact ⟨[], rfl⟩
  | cons b t =>
    have hne : ((b :: t : Str) == ([] : Str)) = false := rfl
    simp only [List.length_cons] at hs
    have ht : (((b :: t : Str).drop 1).take (((b :: t : Str).length : Int).toNat - 1)) = t := by
      rw [Int.toNat_natCast, List.drop_succ_cons, List.drop_zero, List.length_cons, Nat.add_sub_cancel, List.take_length]
    have hg : ((b :: t : Str).getD 0 0).toNat = b.toNat := rfl
    rw [hne, cond_false, chk_pos (dtrue (show (0 : Int) < ((b :: t : Str).length : Int) by simp only [List.length_cons]; omega)),
      chk_pos (by rw [dtrue (show (0 : Int) ≤ ((b :: t : Str).length : Int) by omega), dtrue (show ((b :: t : Str).length : Int) ≤ (b :: t : Str).length by omega)]; rfl),
      chk_pos (dtrue (show (1 : Int) ≤ ((b :: t : Str).length : Int) by simp only [List.length_cons]; omega))]
    simp only [ht, hg]
    have hb := UInt8.toNat_lt b
    simp only [escP]
    generalize b.toNat = n at *
    have q : ∀ m : Nat, ((n : Int) == (m : Int)) = decide (n = m) := fun m => by
      by_cases h : n = m
      · subst h; simp
      · have : ¬ ((n : Int) = (m : Int)) := by omega
        simp [h, this]
    have q34 : ((n : Int) == 34) = decide (n = 34) := q 34
    have q92 : ((n : Int) == 92) = decide (n = 92) := q 92
    have q47 : ((n : Int) == 47) = decide (n = 47) := q 47
    have q98 : ((n : Int) == 98) = decide (n = 98) := q 98
    have q102 : ((n : Int) == 102) = decide (n = 102) := q 102
    have q110 : ((n : Int) == 110) = decide (n = 110) := q 110
    have q114 : ((n : Int) == 114) = decide (n = 114) := q 114
    have q116 : ((n : Int) == 116) = decide (n = 116) := q 116
    have q117 : ((n : Int) == 117) = decide (n = 117) := q 117
    simp only [q34, q92, q47, q98, q102, q110, q114, q116, q117, wrap32s (show n < 1114112 by omega)]
    by_cases h34 : n = 34
    · subst h34; simp
    by_cases h92 : n = 92
    · subst h92; simp
    by_cases h47 : n = 47
    · subst h47; simp
    simp only [h34, h92, h47, decide_false, cond_false, or_self, if_false]
    by_cases h98 : n = 98
    · subst h98; simp
    by_cases h102 : n = 102
    · subst h102; simp
    by_cases h110 : n = 110
    · subst h110; simp
    by_cases h114 : n = 114
    · subst h114; simp
    by_cases h116 : n = 116
    · subst h116; simp
    by_cases h117 : n = 117
    · subst h117
      have := long_ok (R := R) t (by omega) k
      simp only [decide_true, decide_false, cond_true, cond_false, if_true, show ¬ ((117 : Nat) = 98) by decide, show ¬ ((117 : Nat) = 102) by decide, show ¬ ((117 : Nat) = 110) by decide, show ¬ ((117 : Nat) = 114) by decide, show ¬ ((117 : Nat) = 116) by decide, if_false]
      exact this
    simp only [h98, h102, h110, h114, h116, h117, decide_false, cond_false, if_false]
    exact ⟨t, rfl⟩
end Go.Proofs.YtmlkkgfenfdndaaDoor


set_option linter.unusedVariables false
set_option maxRecDepth 100000
namespace Go.Proofs.YtmlkkgfenfdndaaDoor
open Go Go.Yard Go.Lib

end Go.Proofs.YtmlkkgfenfdndaaDoor

set_option linter.unusedVariables false
set_option maxRecDepth 100000
namespace Go.Proofs.YtmlkkgfenfdndaaDoor
open Go Go.Yard Go.Lib

def stepU (s : Str) : Option (Nat × Str) := if ([92] : Str).isPrefixOf s then escP (s.drop 1) else plainP s
def uq : Nat → Str → Str → Option (Str × Str)
  | 0, _, _ => none
  | n + 1, s, o => if ([34] : Str).isPrefixOf s then some (o, s.drop 1) else match stepU s with | none => none | some (c, r) => uq n r (o ++ enc c)

theorem longP_ok {s r : Str} {c : Nat} (h : longP s = some (c, r)) : vr c ∧ r.length + 4 ≤ s.length := by
  unfold longP at h
  split at h
  · cases h
  · rename_i v r1 hu
    obtain ⟨hv, hl, hr⟩ := unitP_lt hu
    split at h
    · cases h
      refine ⟨by unfold vr; omega, ?_⟩
      rw [hr, List.length_drop]; omega
    · split at h
      · cases h
      · split at h
        · split at h
          · cases h
          · rename_i w r2 hu2
            obtain ⟨hw, hl2, hr2⟩ := unitP_lt hu2
            split at h
            · simp only [Option.some.injEq, Prod.mk.injEq] at h
              obtain ⟨hc, rfl⟩ := h
              refine ⟨by unfold vr; omega, ?_⟩
              rw [hr2, hr]
              simp only [List.length_drop]
              rw [hr] at hl2
              simp only [List.length_drop] at hl2
              omega
            · cases h
        · cases h

theorem escP_ok {s r : Str} {c : Nat} (h : escP s = some (c, r)) : vr c ∧ r.length < s.length := by
  cases s with
  | nil => cases h
  | cons b t =>
    simp only [escP] at h
    have hb := UInt8.toNat_lt b
    split at h
    · cases h; exact ⟨by unfold vr; omega, by simp⟩
    split at h
    · cases h; exact ⟨by unfold vr; omega, by simp⟩
    split at h
    · cases h; exact ⟨by unfold vr; omega, by simp⟩
    split at h
    · cases h; exact ⟨by unfold vr; omega, by simp⟩
    split at h
    · cases h; exact ⟨by unfold vr; omega, by simp⟩
    split at h
    · cases h; exact ⟨by unfold vr; omega, by simp⟩
    split at h
    · obtain ⟨h1, h2⟩ := longP_ok h
      exact ⟨h1, by simp only [List.length_cons]; omega⟩
    · cases h

theorem plainP_ok {s r : Str} {c : Nat} (h : plainP s = some (c, r)) : vr c ∧ r.length < s.length := by
  unfold plainP at h
  split at h
  · cases h
  · rename_i hne
    split at h
    · cases h
    · split at h
      · cases h
      · cases h
        have h1 := decodeL_width s
        have h2 : 0 < s.length := List.length_pos_iff.2 hne
        exact ⟨dec_vr s, by rw [List.length_drop]; omega⟩

theorem stepU_ok {s r : Str} {c : Nat} (h : stepU s = some (c, r)) : vr c ∧ r.length < s.length := by
  unfold stepU at h
  split at h
  · obtain ⟨h1, h2⟩ := escP_ok h
    exact ⟨h1, by rw [List.length_drop] at h2; omega⟩
  · exact plainP_ok h

theorem uq_fuel : ∀ (n m : Nat) (s o : Str), s.length < n → s.length < m → uq n s o = uq m s o
  | 0, _, _, _, h, _ => by omega
  | _ + 1, 0, _, _, _, h => by omega
  | n + 1, m + 1, s, o, hn, hm => by
    unfold uq
    split
    · rfl
    · cases hs : stepU s with
      | none => rfl
      | some p =>
        obtain ⟨c, r⟩ := p
        obtain ⟨_, h2⟩ := stepU_ok hs
        exact uq_fuel n m r _ (by omega) (by omega)

theorem unq_loop {R : Type} (x : Str) (e0 : Str → Str → List Int → Option R) (e1 : Str → Str → Int → Bool → Str → List Int → Option R) : ∀ (n : Nat) (s o : Str), s.length < n → o.length + 4 * s.length ≤ 90000000000 →
    (match uq n s o with
     | some (o', r) => quote_Unquote_5_0_L n x s (zs o) e0 e1 = e0 x r (zs o')
     | none => ∃ a b, quote_Unquote_5_0_L n x s (zs o) e0 e1 = e1 x [] 0 false a b) := by
  intro n
  induction n with
  | zero => intro s o h; omega
  | succ n ih =>
    intro s o h hb
    have hL : quote_Unquote_5_0_L (n + 1) x s (zs o) e0 e1 = quote_Unquote_5_0_B strings_Builder_WriteRune_dc6e quote_reader_skip_e74a quote_reader_plain_abbd quote_reader_escaped_abbd (fun x0' x1' x2' => quote_Unquote_5_0_L n x0' x1' x2' e0 e1) x s (zs o) e0 e1 := rfl
    rw [hL]
    unfold quote_Unquote_5_0_B
    rw [skip_ok _ _ (by simp) (by omega)]
    simp only [uq]
    have hlim : Lim o := by unfold Lim; omega
    by_cases h34 : ([34] : Str).isPrefixOf s = true
    · rw [if_pos h34, if_pos h34]
      rfl
    · rw [if_neg h34, if_neg h34, Bool.not_false, cond_true, skip_ok _ _ (by simp) (by omega)]
      have fin : ∀ (c : Nat) (r : Str), vr c → r.length < s.length →
          (match uq n r (o ++ enc c) with
           | some (o', r') => quote_Unquote_5_0_L n x r (zs (o ++ enc c)) e0 e1 = e0 x r' (zs o')
           | none => ∃ a b, quote_Unquote_5_0_L n x r (zs (o ++ enc c)) e0 e1 = e1 x [] 0 false a b) := fun c r hv hr => by
        have := enc_len hv
        exact ih r (o ++ enc c) (by omega) (by rw [List.length_append]; omega)
      unfold stepU
      by_cases h92 : ([92] : Str).isPrefixOf s = true
      · rw [if_pos h92, if_pos h92]
        have e1' : s.drop ([92] : Str).length = s.drop 1 := rfl
        rw [e1', cond_true]
        have hk := esc_ok (R := R) (s.drop 1) (by rw [List.length_drop]; omega) (fun y11 y12 => bif (decide (y11 < (0 : Int))) then (e1 x ([] : Str) 0 false y12 (zs o)) else (strings_Builder_WriteRune_dc6e y11 (zs o) (fun y13 y14 => quote_Unquote_5_0_L n x y12 y14 e0 e1)))
        cases he : escP (s.drop 1) with
        | none =>
          rw [he] at hk
          obtain ⟨r, hk⟩ := hk
          exact ⟨r, zs o, hk.trans (by rw [dtrue (show (-1 : Int) < 0 by omega), cond_true])⟩
        | some p =>
          obtain ⟨c, r⟩ := p
          rw [he] at hk
          obtain ⟨hv, hr⟩ := escP_ok he
          rw [List.length_drop] at hr
          simp only at hk ⊢
          rw [hk, dfalse (show ¬ (c : Int) < 0 by omega), cond_false]
          obtain ⟨q, hq⟩ := wr hv o hlim (fun y13 y14 => quote_Unquote_5_0_L n x r y14 e0 e1)
          rw [hq]
          exact fin c r hv (by omega)
      · rw [if_neg h92, if_neg h92, cond_false]
        have hk := plain_ok (R := R) s (by omega) (fun y15 y16 => bif (decide (y15 < (0 : Int))) then (e1 x ([] : Str) 0 false y16 (zs o)) else (strings_Builder_WriteRune_dc6e y15 (zs o) (fun y17 y18 => quote_Unquote_5_0_L n x y16 y18 e0 e1)))
        cases he : plainP s with
        | none =>
          rw [he] at hk
          simp only at hk ⊢
          exact ⟨s, zs o, hk.trans (by rw [dtrue (show (-1 : Int) < 0 by omega), cond_true])⟩
        | some p =>
          obtain ⟨c, r⟩ := p
          rw [he] at hk
          obtain ⟨hv, hr⟩ := plainP_ok he
          simp only at hk ⊢
          rw [hk, dfalse (show ¬ (c : Int) < 0 by omega), cond_false]
          obtain ⟨q, hq⟩ := wr hv o hlim (fun y17 y18 => quote_Unquote_5_0_L n x r y18 e0 e1)
          rw [hq]
          exact fin c r hv (by omega)

def uqS (s : Str) : Option (Str × Str) := if ([34] : Str).isPrefixOf s then uq (s.length + 1) (s.drop 1) [] else none

theorem unquote_ok {R : Type} (s : Str) (hs : s.length ≤ 20000000000) (k : Str → Int → Bool → Option R) :
    quote_Unquote s k = match uqS s with | some (o, r) => k o (IntKind.i64.wrap ((s.length : Int) - (r.length : Int))) true | none => k [] 0 false := by
  have e : quote_Unquote s k = quote_Unquote_X quote_reader_skip_e74a quote_Unquote_5_0_L s k := rfl
  rw [e]
  unfold quote_Unquote_X uqS
  rw [skip_ok _ _ (by simp) (by omega)]
  by_cases h34 : ([34] : Str).isPrefixOf s = true
  · rw [if_pos h34, if_pos h34, Bool.not_true, cond_false]
    have e1 : s.drop ([34] : Str).length = s.drop 1 := rfl
    rw [e1]
    have hd : (s.drop 1).length ≤ s.length := by rw [List.length_drop]; omega
    have key := unq_loop (R := R) s (fun y19 y20 y21 => k (bstr y21) (IntKind.i64.wrap ((y19.length : Int) - (y20.length : Int))) true) (fun y22 y23 y24 y25 y26 y27 => k y23 y24 y25) (List.length s + List.length (s.drop 1) + List.length ([] : List Int) + 64) (s.drop 1) [] (by omega) (by simp only [List.length_nil]; omega)
    rw [uq_fuel _ (s.length + 1) (s.drop 1) [] (by omega) (by omega)] at key
    cases hu : uq (s.length + 1) (s.drop 1) [] with
    | none =>
      rw [hu] at key
      obtain ⟨a, b, key⟩ := key
      exact key
    | some p =>
      obtain ⟨o, r⟩ := p
      rw [hu] at key
      simp only at key ⊢
      refine Eq.trans key ?_
      rw [bstr_zs]
  · rw [if_neg h34, if_neg h34]
    rfl

end Go.Proofs.YtmlkkgfenfdndaaDoor


set_option linter.unusedVariables false
set_option maxRecDepth 100000
namespace Go.Proofs.YtmlkkgfenfdndaaDoor
open Go Go.Yard Go.Lib

end Go.Proofs.YtmlkkgfenfdndaaDoor


set_option linter.unusedVariables false
set_option maxRecDepth 100000
namespace Go.Proofs.YtmlkkgfenfdndaaDoor
open Go Go.Yard Go.Lib

end Go.Proofs.YtmlkkgfenfdndaaDoor

set_option linter.unusedVariables false
set_option maxRecDepth 100000
namespace Go.Proofs.YtmlkkgfenfdndaaDoor
open Go Go.Yard Go.Lib

end Go.Proofs.YtmlkkgfenfdndaaDoor

set_option linter.unusedVariables false
set_option maxRecDepth 100000
namespace Go.Proofs.YtmlkkgfenfdndaaDoor
open Go Go.Yard Go.Lib

end Go.Proofs.YtmlkkgfenfdndaaDoor

set_option linter.unusedVariables false
set_option maxRecDepth 100000
namespace Go.Proofs.YtmlkkgfenfdndaaDoor
open Go Go.Yard Go.Lib

theorem eqI (n m : Nat) : ((n : Int) == (m : Int)) = decide (n = m) := by
  by_cases h : n = m
  · subst h; simp
  · have : ¬ ((n : Int) = (m : Int)) := by omega
    simp [h, this]

end Go.Proofs.YtmlkkgfenfdndaaDoor

set_option linter.unusedVariables false
set_option maxRecDepth 100000
namespace Go.Proofs.YtmlkkgfenfdndaaDoor
open Go Go.Yard Go.Lib

end Go.Proofs.YtmlkkgfenfdndaaDoor

set_option linter.unusedVariables false
set_option maxRecDepth 100000
namespace Go.Proofs.YtmlkkgfenfdndaaDoor
open Go Go.Yard Go.Lib

end Go.Proofs.YtmlkkgfenfdndaaDoor


set_option linter.unusedVariables false
set_option maxRecDepth 100000
namespace Go.Proofs.YtmlkkgfenfdndaaDoor
open Go Go.Yard Go.Lib

theorem dec_all (u : Nat) : ∀ b ∈ decDigits u, 48 ≤ b.toNat ∧ b.toNat ≤ 57 := by
  induction u using Nat.strongRecOn with
  | _ u ih =>
    intro b hb
    by_cases h : u < 10
    · rw [decDigits, dif_pos h] at hb
      simp only [List.mem_cons, List.not_mem_nil, or_false] at hb
      subst hb
      rw [u8_nat _ (by omega)]; omega
    · rw [decDigits, dif_neg h] at hb
      rcases List.mem_append.1 hb with hb | hb
      · exact ih (u / 10) (by omega) b hb
      · simp only [List.mem_cons, List.not_mem_nil, or_false] at hb
        subst hb
        rw [u8_nat _ (by omega)]; omega
theorem dec_first (u : Nat) (hu : 0 < u) : ∃ b t, decDigits u = b :: t ∧ b.toNat ≠ 48 := by
  induction u using Nat.strongRecOn with
  | _ u ih =>
    by_cases h : u < 10
    · exact ⟨_, [], by rw [decDigits, dif_pos h], by rw [u8_nat _ (by omega)]; omega⟩
    · obtain ⟨b, t, e, hb⟩ := ih (u / 10) (by omega) (by omega)
      exact ⟨b, t ++ [UInt8.ofNat (48 + u % 10)], by rw [decDigits, dif_neg h, e]; rfl, hb⟩
theorem dec_last (u : Nat) : ∃ l, decDigits u = l ++ [UInt8.ofNat (48 + u % 10)] := by
  by_cases h : u < 10
  · exact ⟨[], by rw [decDigits, dif_pos h, Nat.mod_eq_of_lt h]; rfl⟩
  · exact ⟨decDigits (u / 10), by rw [decDigits, dif_neg h]⟩

theorem tmod_abs {m : Int} (h : Int.tmod m 10 ≠ 0) : m.natAbs % 10 ≠ 0 := by
  intro h2
  apply h
  have e : m = (m / 10) * 10 := by omega
  rw [e]
  exact Int.mul_tmod_left _ _

end Go.Proofs.YtmlkkgfenfdndaaDoor

set_option linter.unusedVariables false
set_option maxRecDepth 100000
namespace Go.Proofs.YtmlkkgfenfdndaaDoor
open Go Go.Yard Go.Lib

theorem idx_neg (c : UInt8) : ∀ l : Str, Go.Lib.indexByte l c < 0 ↔ l.contains c = false
  | [] => by simp [Go.Lib.indexByte]
  | x :: l => by
    have ih := idx_neg c l
    have hg := Go.Lib.indexByte_ge l c
    unfold Go.Lib.indexByte
    rw [List.contains_cons]
    by_cases h : x = c
    · subst h; simp
    · have h2 : (c == x) = false := by rw [beq_eq_false_iff_ne]; exact fun e => h e.symm
      rw [h2, Bool.false_or, ← ih]
      split
      · rename_i h3; exact (h (beq_iff_eq.1 h3)).elim
      · split
        · rename_i h4
          have := beq_iff_eq.1 h4
          omega
        · rename_i h4
          have : ¬ Go.Lib.indexByte l c = -1 := fun e => h4 (beq_iff_eq.2 e)
          omega

def signP (signs s : Str) : Nat × Str := match s with | [] => (0, []) | b :: t => if signs.contains b then (b.toNat, t) else (0, b :: t)

theorem sign_ok {R : Type} (signs s : Str) (hs : s.length ≤ 4000000000) (k : Int → Str → Option R) : decimal_reader_sign_e74a signs s k = k ((signP signs s).1 : Int) (signP signs s).2 := by
  have e : decimal_reader_sign_e74a signs s k = decimal_reader_sign_e74a_X signs s k := rfl
  rw [e]
  unfold decimal_reader_sign_e74a_X
  cases s with
  | nil => rfl
  | cons b t =>
    simp only [List.length_cons] at hs
    have hne : ((b :: t : Str) == ([] : Str)) = false := rfl
    have hg : ((b :: t : Str).getD 0 0) = b := rfl
    have hd : ((b :: t : Str).drop 1).take (((b :: t : Str).length : Int).toNat - 1) = t := by
      rw [Int.toNat_natCast, List.drop_succ_cons, List.drop_zero, List.length_cons, Nat.add_sub_cancel, List.take_length]
    have hi : idxByte signs ((b.toNat : Nat) : Int) = Go.Lib.indexByte signs b := by
      unfold idxByte
      rw [Int.toNat_natCast]
      simp
    have hl : (b :: t : Str).length = t.length + 1 := rfl
    rw [hne, cond_false, hg, hd, hi, hl, chk_pos (dtrue (by omega))]
    unfold signP
    cases hc : signs.contains b with
    | false =>
      rw [dtrue ((idx_neg b signs).2 hc), cond_true]
      simp only [hc, Bool.false_eq_true, if_false]
      rfl
    | true =>
      have : ¬ Go.Lib.indexByte signs b < 0 := fun h => by rw [(idx_neg b signs).1 h] at hc; cases hc
      rw [dfalse this, cond_false, chk_pos (dtrue (by omega)), chk_pos (by rw [dtrue (show (0 : Int) ≤ ((t.length + 1 : Nat) : Int) by omega), dtrue (by omega)]; rfl), chk_pos (dtrue (by omega))]
      simp only [hc, if_true]

def digS : Str := [48, 49, 50, 51, 52, 53, 54, 55, 56, 57]
def isDig (b : UInt8) : Prop := 48 ≤ b.toNat ∧ b.toNat ≤ 57
theorem digS_all : ∀ n : Fin 256, digS.contains (UInt8.ofNat n.val) = decide (48 ≤ n.val ∧ n.val ≤ 57) := by decide +kernel
theorem digS_ok (b : UInt8) : digS.contains b = decide (48 ≤ b.toNat ∧ b.toNat ≤ 57) := by
  have := digS_all ⟨b.toNat, UInt8.toNat_lt b⟩
  simpa using this

theorem dropW_app (p : UInt8 → Bool) : ∀ (a r : Str), (∀ x ∈ a, p x = true) → (a ++ r).dropWhile p = r.dropWhile p
  | [], r, _ => rfl
  | x :: a, r, h => by
    rw [List.cons_append, List.dropWhile_cons, h x (by simp), if_pos rfl]
    exact dropW_app p a r fun y hy => h y (by simp [hy])
theorem dropW_head (p : UInt8 → Bool) (r : Str) (h : ∀ b t, r = b :: t → p b = false) : r.dropWhile p = r := by
  cases r with
  | nil => rfl
  | cons b t => rw [List.dropWhile_cons, h b t rfl]; rfl

theorem digits_ok {R : Type} (a r : Str) (ha : ∀ x ∈ a, isDig x) (hr : ∀ b t, r = b :: t → ¬ isDig b) (hl : (a ++ r).length ≤ 4000000000) (k : Str → Str → Option R) : decimal_reader_digits_abbd (a ++ r) k = k a r := by
  have e : decimal_reader_digits_abbd (a ++ r) k = decimal_reader_digits_abbd_X (a ++ r) k := rfl
  rw [e]
  unfold decimal_reader_digits_abbd_X
  have ht : trimL (a ++ r) ([48, 49, 50, 51, 52, 53, 54, 55, 56, 57] : Str) = r := by
    unfold trimL
    have h1 := dropW_app (fun x => digS.contains x) a r (fun x hx => by rw [digS_ok]; exact dtrue (ha x hx))
    have h2 := dropW_head (fun x => digS.contains x) r (fun b t hb => by rw [digS_ok]; exact dfalse (hr b t hb))
    exact h1.trans h2
  rw [ht]
  have hlen : (a ++ r).length = a.length + r.length := List.length_append
  have hw : IntKind.i64.wrap (((a ++ r).length : Int) - (r.length : Int)) = (a.length : Int) := by rw [hlen, wrap_id (by omega) (by omega)]; omega
  rw [hw, chk_pos (by rfl), chk_pos (by rw [dtrue (by omega), dtrue (by omega)]; rfl), chk_pos (dtrue (by omega)), List.drop_zero, Int.toNat_natCast, Nat.sub_zero, List.take_left]

theorem parse_ok {R : Type} (neg : Bool) (I F X : Str) (pt : Bool) (ev : Int) (hI : ∀ x ∈ I, isDig x) (hI0 : I ≠ []) (hI1 : 1 < I.length → (I.getD 0 0).toNat ≠ 48) (hF : ∀ x ∈ F, isDig x) (hF0 : pt = true → F ≠ []) (hF1 : pt = false → F = [])
    (hX : (X = [] ∧ ev = 0) ∨ ∃ b Y, X = b :: Y ∧ (b = 101 ∨ b = 69) ∧ ∀ f : Int → Bool → Str → Option R, decimal_reader_exponent_abbd Y f = f ev true []) (hev : -1000000 ≤ ev ∧ ev ≤ 1000000)
    (hlen : ((if neg then [45] else []) ++ (I ++ ((if pt then 46 :: F else []) ++ X))).length ≤ 400)
    (hsh : (trimR (trimL (I ++ F) [48]) [48]).length ≤ 18) (k : Dcm → Bool → Option R) :
    decimal_Parse ((if neg then [45] else []) ++ (I ++ ((if pt then 46 :: F else []) ++ X))) k =
      decimal_Make (if neg then IntKind.i64.wrap (0 - atoiVal (48 :: trimR (trimL (I ++ F) [48]) [48])) else atoiVal (48 :: trimR (trimL (I ++ F) [48]) [48])) (-(F.length : Int) + ev + (((trimL (I ++ F) [48]).length : Int) - ((trimR (trimL (I ++ F) [48]) [48]).length : Int))) k := by
  generalize hS : (if neg then [45] else []) ++ (I ++ ((if pt then 46 :: F else []) ++ X)) = s at *
  have e : decimal_Parse s k = decimal_Parse_X decimal_Make decimal_reader_sign_e74a decimal_reader_digits_abbd decimal_reader_exponent_abbd s k := rfl
  rw [e]
  unfold decimal_Parse_X
  -- the pieces
  obtain ⟨i0, It, hIe⟩ : ∃ b t, I = b :: t := by cases I with | nil => exact (hI0 rfl).elim | cons b t => exact ⟨b, t, rfl⟩
  have hi0 := hI i0 (by rw [hIe]; simp)
  have hXh : ∀ b t, X = b :: t → ¬ isDig b ∧ b.toNat ≠ 46 := by
    intro b t hb
    rcases hX with ⟨rfl, _⟩ | ⟨c, Y, rfl, hc, _⟩
    · cases hb
    · cases hb
      rcases hc with rfl | rfl <;> exact ⟨by unfold isDig; decide, by decide⟩
  have hs1 : signP [45] s = (if neg then 45 else 0, I ++ ((if pt then 46 :: F else []) ++ X)) := by
    rw [← hS]
    cases neg with
    | true => rfl
    | false =>
      rw [hIe]
      have : ([45] : Str).contains i0 = false := by
        have : i0 ≠ 45 := by rintro rfl; exact absurd hi0.1 (by decide)
        simp [this]
      simp only [Bool.false_eq_true, if_false, List.nil_append, List.cons_append, signP, this]
  have hsl : s.length ≤ 400 := hlen
  have hparts : s.length = (if neg then 1 else 0) + (I.length + ((if pt then F.length + 1 else 0) + X.length)) := by
    rw [← hS]
    cases neg <;> cases pt <;> simp <;> omega
  have hFl : F.length ≤ 400 := by
    cases pt with
    | true => simp at hparts; omega
    | false => rw [hF1 rfl]; simp
  have hIl : I.length ≤ 400 := by omega
  have hXl : X.length ≤ 400 := by omega
  rw [sign_ok _ _ (by omega), hs1]
  simp only
  have hPh : ∀ b t, (if pt then 46 :: F else []) ++ X = b :: t → ¬ isDig b := by
    intro b t hb
    cases pt with
    | true => simp at hb; rw [← hb.1]; unfold isDig; decide
    | false => exact (hXh b t (by simpa using hb)).1
  have hl2 : (I ++ ((if pt then 46 :: F else []) ++ X)).length ≤ 4000000000 := by
    have : (I ++ ((if pt then 46 :: F else []) ++ X)).length = I.length + ((if pt then F.length + 1 else 0) + X.length) := by cases pt <;> simp <;> omega
    omega
  rw [digits_ok I _ hI hPh hl2]
  have hne : (I == ([] : Str)) = false := by rw [beq_eq_false_iff_ne]; exact hI0
  rw [dfalse (show ¬ (s.length : Int) > 400 by omega), cond_false, hne, cond_false]
  have q48 : (((I.getD 0 0).toNat : Int) == 48) = decide ((I.getD 0 0).toNat = 48) := eqI _ 48
  -- the rest, behind the first test
  have drop1 : ∀ x : Option R, (bif (decide ((I.length : Int) > 1)) then (chk (decide ((0 : Int) < I.length)) (bif (((I.getD 0 0).toNat : Int) == 48) then (k ⟨0, 0⟩ false) else x)) else x) = x := by
    intro x
    by_cases h : 1 < I.length
    · rw [dtrue (show (I.length : Int) > 1 by omega), cond_true, chk_pos (dtrue (by omega)), q48, dfalse (hI1 h), cond_false]
    · rw [dfalse (show ¬ (I.length : Int) > 1 by omega), cond_false]
  rw [drop1]
  generalize hA : I ++ F = all at *
  have hall : all.length ≤ 800 := by rw [← hA, List.length_append]; omega
  have htl : (trimL all [48]).length ≤ all.length := drop_le _ _
  have lone : ([48] : Str).length = 1 := rfl
  have hc : (([48] : Str) ++ (trimR (trimL all ([48] : Str)) ([48] : Str))) = 48 :: trimR (trimL all [48]) [48] := rfl
  have hbe : ((([] : Str) == ([] : Str))) = true := rfl
  have hs2 : decide ((48 :: trimR (trimL all [48]) [48] : Str).length ≤ 281474976710656) = true := dtrue (by simp only [List.length_cons]; omega)
  have w0 : IntKind.i64.wrap (((trimL all [48]).length : Int) - ((trimR (trimL all [48]) [48]).length : Int)) = ((trimL all [48]).length : Int) - ((trimR (trimL all [48]) [48]).length : Int) := wrap_id (by omega) (by omega)
  have q1 : decide (1 + (trimR (trimL all [48]) [48]).length ≤ 9223372036854775807) = true := dtrue (by omega)
  have q2 : decide (((trimR (trimL all [48]) [48]).length : Int) > 18) = false := dfalse (by omega)
  have q3 : (isAsc ([48] : Str) && decide (([48] : Str).length < 4294967281)) = true := rfl
  have qn : (((if neg then 45 else 0 : Nat) : Int) != 0) = neg := by cases neg <;> rfl
  have sX : signP [101, 69] X = match X with | [] => (0, []) | b :: Y => (b.toNat, Y) := by
    rcases hX with ⟨rfl, _⟩ | ⟨b, Y, rfl, hb, _⟩
    · rfl
    · rcases hb with rfl | rfl <;> rfl
  cases pt with
  | false =>
    have hFe := hF1 rfl
    subst hFe
    rw [List.append_nil] at hA
    subst hA
    have s46 : signP [46] X = (0, X) := by
      rcases hX with ⟨rfl, _⟩ | ⟨b, Y, rfl, hb, _⟩
      · rfl
      · rcases hb with rfl | rfl <;> rfl
    simp only [Bool.false_eq_true, if_false, List.nil_append]
    rw [sign_ok _ _ (by omega), s46]
    have z0 : (((0 : Nat) : Int) != 0) = false := rfl
    simp only [z0, cond_false]
    rw [sign_ok _ _ (by omega), sX]
    rcases hX with ⟨rfl, rfl⟩ | ⟨b, Y, rfl, hb, hE⟩
    · simp only [z0, cond_false, q3, chk_pos rfl, hbe, Bool.not_true, q2, q1, hc, hs2, Bool.cond_self, w0, qn]
      rw [wrap_id (n := 0 + (((trimL I [48]).length : Int) - ((trimR (trimL I [48]) [48]).length : Int))) (by omega) (by omega)]
      have e0 : -((([] : Str).length : Nat) : Int) + 0 = 0 := rfl
      rw [e0]
      cases neg <;> rfl
    · have zb : ((b.toNat : Int) != 0) = true := by rcases hb with rfl | rfl <;> rfl
      simp only [zb, cond_true, hE, Bool.not_true, cond_false, q3, chk_pos rfl, hbe, q2, q1, hc, hs2, Bool.cond_self, w0, qn]
      rw [wrap_id (n := 0 + ev) (by omega) (by omega), wrap_id (n := 0 + ev + (((trimL I [48]).length : Int) - ((trimR (trimL I [48]) [48]).length : Int))) (by omega) (by omega)]
      have e0 : -((([] : Str).length : Nat) : Int) + ev = 0 + ev := rfl
      rw [e0]
      cases neg <;> rfl
  | true =>
    have hFe := hF0 rfl
    simp only [if_true, List.cons_append, List.nil_append]
    have s46 : signP [46] (46 :: (F ++ X)) = (46, F ++ X) := rfl
    have lFX : (F ++ X).length = F.length + X.length := List.length_append
    rw [sign_ok _ _ (by simp only [List.length_cons]; omega), s46]
    have z46 : (((46 : Nat) : Int) != 0) = true := rfl
    have z0 : (((0 : Nat) : Int) != 0) = false := rfl
    simp only [z46, cond_true]
    rw [digits_ok F X hF (fun b t hb => (hXh b t hb).1) (by omega)]
    have hFn : (F == ([] : Str)) = false := by rw [beq_eq_false_iff_ne]; exact hFe
    rw [hFn, cond_false, chk_pos (dtrue (by omega)), hA, wrap_id (n := 0 - (F.length : Int)) (by omega) (by omega)]
    rw [sign_ok _ _ (by omega), sX]
    rcases hX with ⟨rfl, rfl⟩ | ⟨b, Y, rfl, hb, hE⟩
    · simp only [z0, cond_false, q3, chk_pos rfl, hbe, Bool.not_true, q2, q1, hc, hs2, Bool.cond_self, w0, qn]
      rw [wrap_id (n := 0 - (F.length : Int) + (((trimL all [48]).length : Int) - ((trimR (trimL all [48]) [48]).length : Int))) (by omega) (by omega)]
      have e0 : -(F.length : Int) + 0 = 0 - (F.length : Int) := by omega
      rw [e0]
      cases neg <;> rfl
    · have zb : ((b.toNat : Int) != 0) = true := by rcases hb with rfl | rfl <;> rfl
      simp only [zb, cond_true, hE, Bool.not_true, cond_false, q3, chk_pos rfl, hbe, q2, q1, hc, hs2, Bool.cond_self, w0, qn]
      rw [wrap_id (n := 0 - (F.length : Int) + ev) (by omega) (by omega), wrap_id (n := 0 - (F.length : Int) + ev + (((trimL all [48]).length : Int) - ((trimR (trimL all [48]) [48]).length : Int))) (by omega) (by omega)]
      have e0 : -(F.length : Int) + ev = 0 - (F.length : Int) + ev := by omega
      rw [e0]
      cases neg <;> rfl

theorem uint_app : ∀ (l r : Str) (acc v : Nat), parseUint10 acc l = .ok v → parseUint10 acc (l ++ r) = parseUint10 v r
  | [], r, acc, v, h => by
    simp only [parseUint10] at h
    injection h with h
    subst h
    rfl
  | c :: l, r, acc, v, h => by
    simp only [parseUint10, List.cons_append] at h ⊢
    split at h
    · rename_i h1
      rw [if_pos h1]
      split at h
      · cases h
      · rename_i h2
        rw [if_neg h2]
        split at h
        · cases h
        · rename_i h3
          rw [if_neg h3]
          exact uint_app l r _ v h
    · cases h

theorem uint_dec (u : Nat) (hu : u < 1000000000000000000) : parseUint10 0 (decDigits u) = .ok u := by
  induction u using Nat.strongRecOn with
  | _ u ih =>
    by_cases h : u < 10
    · rw [decDigits, dif_pos h]
      simp only [parseUint10, u8_nat (48 + u) (by omega)]
      rw [if_pos (by omega), if_neg (by omega), if_neg (by omega)]
      congr 1
      omega
    · rw [decDigits, dif_neg h, uint_app _ _ _ _ (ih (u / 10) (by omega) (by omega))]
      simp only [parseUint10, u8_nat (48 + u % 10) (by omega)]
      rw [if_pos (by omega), if_neg (by omega), if_neg (by omega)]
      congr 1
      omega

theorem atoi_dec (u : Nat) (hu : u < 1000000000000000000) : atoiVal (48 :: decDigits u) = (u : Int) := by
  have h1 : parseMag (48 :: decDigits u) = .ok u := by
    unfold parseMag
    rw [if_neg (by simp)]
    have := uint_dec u hu
    simp only [parseUint10]
    exact this
  have h2 : atoiAll (48 :: decDigits u) = .ok (u : Int) := by
    unfold atoiAll
    simp only
    have e : (if (48 : UInt8).toNat = 43 ∨ (48 : UInt8).toNat = 45 then decDigits u else 48 :: decDigits u) = 48 :: decDigits u := if_neg (by decide)
    rw [e, h1]
    simp only
    rw [if_neg (by omega), if_neg (fun h => absurd h.1 (by decide)), if_neg (by decide)]
  unfold atoiVal
  rw [h2]

theorem trimL_z (n : Nat) (r : Str) (hr : ∀ b t, r = b :: t → b ≠ 48) : trimL (zeros n ++ r) [48] = r := by
  unfold trimL
  rw [dropW_app _ _ _ (fun x hx => by have := List.eq_of_mem_replicate hx; subst this; rfl)]
  exact dropW_head _ _ fun b t hb => by simp [hr b t hb]

theorem trimR_z (l : Str) (n : Nat) (b : UInt8) (hb : b ≠ 48) : trimR (l ++ [b] ++ zeros n) [48] = l ++ [b] := by
  unfold trimR
  rw [List.reverse_append, List.reverse_append]
  have e : (zeros n).reverse = zeros n := List.reverse_replicate
  rw [e, dropW_app _ _ _ (fun x hx => by have := List.eq_of_mem_replicate hx; subst this; rfl)]
  have : List.dropWhile (fun x => ([48] : Str).contains x) (([b] : Str).reverse ++ l.reverse) = [b] ++ l.reverse := dropW_head _ _ fun c t hc => by
    have : b = c := by
      have := congrArg List.head? hc
      simpa using this
    subst this
    simp [hb]
  rw [this, List.reverse_append, List.reverse_reverse]
  rfl

theorem trims {u : Nat} (hu : u % 10 ≠ 0) (a b : Nat) : trimL (zeros a ++ (decDigits u ++ zeros b)) [48] = decDigits u ++ zeros b ∧ trimR (decDigits u ++ zeros b) [48] = decDigits u := by
  obtain ⟨x, t, e, hx⟩ := dec_first u (by omega)
  obtain ⟨l, hl⟩ := dec_last u
  constructor
  · apply trimL_z
    intro c t' hc
    rw [e] at hc
    have : x = c := by
      have := congrArg List.head? hc
      simpa using this
    subst this
    rintro rfl
    exact hx rfl
  · rw [hl]
    apply trimR_z
    intro h
    have := congrArg UInt8.toNat h
    rw [u8_nat _ (by omega)] at this
    have e48 : (48 : UInt8).toNat = 48 := rfl
    omega

theorem prt_parts (d : Dcm) (hd : Fm d) (h0 : d.mant ≠ 0) : ∃ (I F : Str) (pt : Bool) (a b : Nat), prt d = (if decide (d.mant < 0) then [45] else []) ++ (I ++ (if pt then 46 :: F else [])) ∧
    I ++ F = zeros a ++ (decDigits d.mant.natAbs ++ zeros b) ∧ I ≠ [] ∧ (1 < I.length → (I.getD 0 0).toNat ≠ 48) ∧ (pt = true → F ≠ []) ∧ (pt = false → F = []) ∧ (F.length : Int) = (b : Int) - d.exp ∧ I.length + F.length ≤ 40 ∧ (∀ x ∈ I, isDig x) ∧ (∀ x ∈ F, isDig x) := by
  have bd := hd.bounds
  have hall := dec_all d.mant.natAbs
  have hlen : (decDigits d.mant.natAbs).length ≤ 16 := by rw [decDigits_length]; exact digits16 (by omega)
  have hpos : 1 ≤ (decDigits d.mant.natAbs).length := by rw [decDigits_length]; exact nDigits_pos _
  obtain ⟨x0, t0, hfirst, hx0⟩ := dec_first d.mant.natAbs (by omega)
  have hsg : (if d.mant < 0 then ([45] : Str) else []) = if decide (d.mant < 0) then [45] else [] := by by_cases h : d.mant < 0 <;> simp [h]
  unfold prt
  rw [hsg]
  generalize decDigits d.mant.natAbs = L at *
  by_cases he : 0 ≤ d.exp
  · refine ⟨L ++ zeros d.exp.toNat, [], false, 0, d.exp.toNat, ?_, by simp [zeros], ?_, fun _ => ?_, by simp, by simp, by simp; omega, ?_, ?_, by simp⟩
    · unfold body; rw [if_pos he]; simp
    · rw [hfirst]; simp
    · rw [hfirst]; exact hx0
    · rw [List.length_append, zeros_len, List.length_nil]; omega
    · intro x hx
      rcases List.mem_append.1 hx with hx | hx
      · exact hall x hx
      · have := List.eq_of_mem_replicate hx
        subst this; unfold isDig; decide
  · have hz : ∃ z : Nat, (max 0 (1 - d.exp - (L.length : Int))).toNat = z := ⟨_, rfl⟩
    obtain ⟨z, hz⟩ := hz
    have tl : (zeros z ++ L).length = z + L.length := by rw [List.length_append, zeros_len]
    have hat : (((zeros z ++ L).length : Int) + d.exp).toNat = (zeros z ++ L).length - d.exp.natAbs := by omega
    have h1 : d.exp.natAbs + 1 ≤ (zeros z ++ L).length := by omega
    have tdig : ∀ x ∈ zeros z ++ L, isDig x := by
      intro x hx
      rcases List.mem_append.1 hx with hx | hx
      · have := List.eq_of_mem_replicate hx
        subst this; unfold isDig; decide
      · exact hall x hx
    have tfirst : z = 0 → ((zeros z ++ L).getD 0 0).toNat ≠ 48 := by
      rintro rfl
      rw [hfirst]
      exact hx0
    refine ⟨(zeros z ++ L).take ((zeros z ++ L).length - d.exp.natAbs), (zeros z ++ L).drop ((zeros z ++ L).length - d.exp.natAbs), true, z, 0, ?_, ?_, ?_, ?_, fun _ => ?_, (fun h => by cases h), ?_, ?_, ?_, ?_⟩
    · unfold body
      rw [if_neg he]
      simp only [hz, hat, if_true]
      simp
    · rw [List.take_append_drop]; simp [zeros]
    · intro e
      have := congrArg List.length e
      rw [List.length_take, List.length_nil] at this
      omega
    · intro hI
      rw [List.length_take] at hI
      have e : ((zeros z ++ L).take ((zeros z ++ L).length - d.exp.natAbs)).getD 0 0 = (zeros z ++ L).getD 0 0 := by
        have := (getD_app_lt (s := (zeros z ++ L).take ((zeros z ++ L).length - d.exp.natAbs)) (t := (zeros z ++ L).drop ((zeros z ++ L).length - d.exp.natAbs)) (i := 0) (by rw [List.length_take]; omega)).symm
        rw [List.take_append_drop] at this
        exact this
      rw [e]
      exact tfirst (by omega)
    · intro e
      have := congrArg List.length e
      rw [List.length_drop, List.length_nil] at this
      omega
    · rw [List.length_drop]; omega
    · rw [List.length_take, List.length_drop]; omega
    · intro x hx; exact tdig x (List.mem_of_mem_take hx)
    · intro x hx; exact tdig x (List.mem_of_mem_drop hx)

theorem parse_zero {R : Type} (k : Dcm → Bool → Option R) : decimal_Parse [48] k = k ⟨0, 0⟩ true := by kernel_rfl
theorem prt_zero : prt ⟨0, 0⟩ = [48] := by
  show [] ++ body (decDigits 0) 0 = [48]
  rw [decDigits_one (by omega)]
  rfl

theorem parse_prt {R : Type} {d : Dcm} (hd : Fm d) (h0 : d.mant ≠ 0) (X : Str) (ev : Int) (hX : (X = [] ∧ ev = 0) ∨ ∃ b Y, X = b :: Y ∧ (b = 101 ∨ b = 69) ∧ ∀ f : Int → Bool → Str → Option R, decimal_reader_exponent_abbd Y f = f ev true [])
    (hev : -1000000 ≤ ev ∧ ev ≤ 1000000) (hXl : X.length ≤ 100) (k : Dcm → Bool → Option R) : decimal_Parse (prt d ++ X) k = decimal_Make d.mant (d.exp + ev) k := by
  have bd := hd.bounds
  obtain ⟨I, F, pt, a, b, e1, e2, i0, i1, f0, f1, fl, il, iD, fD⟩ := prt_parts d hd h0
  obtain ⟨t1, t2⟩ := trims (u := d.mant.natAbs) (tmod_abs (hd.nz h0)) a b
  have hlen : (decDigits d.mant.natAbs).length ≤ 16 := by rw [decDigits_length]; exact digits16 (by omega)
  have key := parse_ok (R := R) (decide (d.mant < 0)) I F X pt ev iD i0 i1 fD f0 f1 hX hev (by
    cases hd2 : decide (d.mant < 0) <;> cases pt <;> simp <;> omega) (by rw [e2, t1, t2]; omega) k
  have e3 : prt d ++ X = (if decide (d.mant < 0) then [45] else []) ++ (I ++ ((if pt then 46 :: F else []) ++ X)) := by rw [e1]; simp only [List.append_assoc]
  rw [e3, key, e2, t1, t2, atoi_dec _ (by omega)]
  have e4 : (if decide (d.mant < 0) = true then IntKind.i64.wrap (0 - (d.mant.natAbs : Int)) else (d.mant.natAbs : Int)) = d.mant := by
    by_cases h : d.mant < 0
    · rw [if_pos (by rw [dtrue h]), wrap_id (by omega) (by omega)]; omega
    · rw [if_neg (by rw [dfalse h]; simp)]; omega
  have e5 : -(F.length : Int) + ev + (((decDigits d.mant.natAbs ++ zeros b).length : Int) - ((decDigits d.mant.natAbs).length : Int)) = d.exp + ev := by
    rw [List.length_append, zeros_len]
    omega
  rw [e4, e5]

theorem make_same {R : Type} {d : Dcm} (hd : Fm d) (h0 : d.mant ≠ 0) (k : Dcm → Bool → Option R) : decimal_Make d.mant d.exp k = k d true := by
  have bd := hd.bounds
  obtain ⟨r, hr, hm⟩ := make_any (R := R) d.mant d.exp (by unfold I64; omega) (by omega) (by omega)
  have e5 : d.mant = d.mant * 10 ^ 0 := by simp
  rw [e5] at hr
  rw [hm, made_same hd h0 (j := 0) (x := d.exp) (by omega) hr]

end Go.Proofs.YtmlkkgfenfdndaaDoor

set_option linter.unusedVariables false
set_option maxRecDepth 100000
namespace Go.Proofs.YtmlkkgfenfdndaaDoor
open Go Go.Yard Go.Lib

end Go.Proofs.YtmlkkgfenfdndaaDoor

set_option linter.unusedVariables false
set_option maxRecDepth 100000
namespace Go.Proofs.YtmlkkgfenfdndaaDoor
open Go Go.Yard Go.Lib

abbrev isD (b : UInt8) : Bool := digS.contains b
theorem isD_ok (b : UInt8) : isD b = decide (48 ≤ b.toNat ∧ b.toNat ≤ 57) := digS_ok b
abbrev takeD (s : Str) : Str := s.takeWhile isD
abbrev dropD (s : Str) : Str := s.dropWhile isD

theorem take_dig (s : Str) : ∀ x ∈ takeD s, isDig x := fun x hx => by
  have h := List.all_takeWhile (l := s) (p := isD)
  have := List.all_eq_true.1 h x hx
  rw [isD_ok] at this
  exact of_decide_eq_true (p := 48 ≤ x.toNat ∧ x.toNat ≤ 57) this
theorem drop_dig (s : Str) : ∀ b t, dropD s = b :: t → ¬ isDig b := fun b t h hb => by
  have h2 : isD b = false := by
    have := List.head?_dropWhile_not isD s
    have e : s.dropWhile isD = b :: t := h
    rw [e] at this
    simpa using this
  rw [isD_ok, dtrue (p := 48 ≤ b.toNat ∧ b.toNat ≤ 57) hb] at h2
  cases h2
theorem take_le (s : Str) : (takeD s).length ≤ s.length := by
  have := congrArg List.length (List.takeWhile_append_dropWhile (p := isD) (l := s))
  rw [List.length_append] at this
  unfold takeD
  omega
theorem dropD_le (s : Str) : (dropD s).length ≤ s.length := drop_le _ _
theorem digits_any {R : Type} (s : Str) (hl : s.length ≤ 4000000000) (k : Str → Str → Option R) : decimal_reader_digits_abbd s k = k (takeD s) (dropD s) := by
  have e : takeD s ++ dropD s = s := List.takeWhile_append_dropWhile
  have h := digits_ok (R := R) (takeD s) (dropD s) (take_dig s) (drop_dig s) (by rw [e]; exact hl) k
  rw [e] at h
  exact h
theorem signP_le (g s : Str) : (signP g s).2.length ≤ s.length := by
  unfold signP
  cases s with
  | nil => simp
  | cons b t => simp only; split <;> simp

def valD : Str → Nat → Nat
  | [], v => v
  | b :: s, v => valD s (10 * v + (b.toNat - 48))
theorem valD_app : ∀ (a b : Str) (v : Nat), valD (a ++ b) v = valD b (valD a v)
  | [], _, _ => rfl
  | x :: a, b, v => valD_app a b _
theorem valD_ge : ∀ (s : Str) (v : Nat), v * 10 ^ s.length ≤ valD s v
  | [], v => by simp [valD]
  | b :: s, v => by
    have := valD_ge s (10 * v + (b.toNat - 48))
    have h2 : 10 * v * 10 ^ s.length ≤ (10 * v + (b.toNat - 48)) * 10 ^ s.length := Nat.mul_le_mul_right _ (by omega)
    have e : v * 10 ^ (b :: s).length = 10 * v * 10 ^ s.length := by rw [List.length_cons, Nat.pow_succ, Nat.mul_comm 10, Nat.mul_assoc, Nat.mul_comm 10]
    simp only [valD]
    omega
theorem valD_self (s : Str) (v : Nat) : v ≤ valD s v := Nat.le_trans (Nat.le_mul_of_pos_right _ (Nat.pos_of_ne_zero (by simp))) (valD_ge s v)
theorem valD_lt : ∀ (s : Str) (v : Nat), (∀ x ∈ s, isDig x) → valD s v < (v + 1) * 10 ^ s.length
  | [], v, _ => by simp [valD]
  | b :: s, v, h => by
    have hb := h b (by simp)
    unfold isDig at hb
    have := valD_lt s (10 * v + (b.toNat - 48)) fun x hx => h x (by simp [hx])
    have h2 : (10 * v + (b.toNat - 48) + 1) * 10 ^ s.length ≤ ((v + 1) * 10) * 10 ^ s.length := Nat.mul_le_mul_right _ (by omega)
    have e : (v + 1) * 10 ^ (b :: s).length = ((v + 1) * 10) * 10 ^ s.length := by rw [List.length_cons, Nat.pow_succ, Nat.mul_assoc, Nat.mul_comm 10]
    simp only [valD]
    omega

theorem uint_dig : ∀ (D : Str) (acc : Nat), (∀ x ∈ D, isDig x) →
    (valD D acc < 18446744073709551616 → parseUint10 acc D = .ok (valD D acc)) ∧ (acc < 18446744073709551616 → 18446744073709551616 ≤ valD D acc → parseUint10 acc D = .range)
  | [], acc, _ => ⟨fun _ => rfl, fun h1 h2 => by simp only [valD] at h2; omega⟩
  | b :: D, acc, h => by
    have hb := h b (by simp)
    unfold isDig at hb
    obtain ⟨i1, i2⟩ := uint_dig D (10 * acc + (b.toNat - 48)) fun x hx => h x (by simp [hx])
    have hs := valD_self D (10 * acc + (b.toNat - 48))
    have e : acc * 10 + (b.toNat - 48) = 10 * acc + (b.toNat - 48) := by omega
    simp only [valD, parseUint10]
    rw [if_pos hb, e]
    refine ⟨fun h1 => ?_, fun h1 h2 => ?_⟩
    · rw [if_neg (by omega), if_neg (by omega)]
      exact i1 h1
    · by_cases g1 : 1844674407370955162 ≤ acc
      · rw [if_pos g1]
      · rw [if_neg g1]
        by_cases g2 : 18446744073709551616 ≤ 10 * acc + (b.toNat - 48)
        · rw [if_pos g2]
        · rw [if_neg g2]
          exact i2 (by omega) h2

theorem atoi_dig (D : Str) (hD : ∀ x ∈ D, isDig x) (h0 : D ≠ []) :
    (valD D 0 < 9223372036854775808 → atoiAll D = .ok (valD D 0 : Int)) ∧ (9223372036854775808 ≤ valD D 0 → atoiAll D = .range) := by
  obtain ⟨i1, i2⟩ := uint_dig D 0 hD
  cases D with
  | nil => exact (h0 rfl).elim
  | cons b D =>
    have hb := hD b (by simp)
    unfold isDig at hb
    have e : (if b.toNat = 43 ∨ b.toNat = 45 then D else b :: D) = b :: D := if_neg (by omega)
    have m : parseMag (b :: D) = parseUint10 0 (b :: D) := by unfold parseMag; rw [if_neg (by simp)]
    unfold atoiAll
    simp only
    rw [e, m]
    refine ⟨fun h => ?_, fun h => ?_⟩
    · rw [i1 (by omega)]
      simp only
      rw [if_neg (by omega), if_neg (fun h2 => absurd h2.1 (by omega)), if_neg (by omega)]
    · by_cases h2 : valD (b :: D) 0 < 18446744073709551616
      · rw [i1 h2]
        simp only
        rw [if_pos ⟨by omega, h⟩]
      · rw [i2 (by omega) (by omega)]

def expP (X : Str) : Int × Bool × Str :=
  let q := signP [43, 45] X
  let v : Int := min (valD (takeD q.2) 0 : Int) 1000000
  (if q.1 = 45 then -v else v, !(takeD q.2 == []), dropD q.2)

theorem exp_any {R : Type} (X : Str) (hl : X.length ≤ 4000000000) (k : Int → Bool → Str → Option R) : decimal_reader_exponent_abbd X k = k (expP X).1 (expP X).2.1 (expP X).2.2 := by
  have e : decimal_reader_exponent_abbd X k = decimal_reader_exponent_abbd_X decimal_reader_sign_e74a decimal_reader_digits_abbd X k := rfl
  rw [e]
  unfold decimal_reader_exponent_abbd_X
  have h1 := signP_le [43, 45] X
  rw [sign_ok _ _ hl]
  unfold expP
  simp only
  generalize signP [43, 45] X = q at *
  rw [digits_any _ (by omega)]
  have h2 := take_le q.2
  have hD := take_dig q.2
  generalize takeD q.2 = D at *
  generalize dropD q.2 = r at *
  have q45 : ((q.1 : Int) == 45) = decide (q.1 = 45) := eqI _ 45
  rw [chk_pos (dtrue (by omega)), q45]
  by_cases h0 : D = []
  · subst h0
    have a1 : atoiOk [] = false := rfl
    have a2 : atoiVal [] = 0 := rfl
    rw [a1, a2]
    simp only [cond_false, valD]
    by_cases hq : q.1 = 45
    · rw [dtrue hq, if_pos hq]; rfl
    · rw [dfalse hq, if_neg hq]; rfl
  · have hne : (D == ([] : Str)) = false := by rw [beq_eq_false_iff_ne]; exact h0
    obtain ⟨i1, i2⟩ := atoi_dig D hD h0
    rw [hne]
    simp only [Bool.not_false, cond_true]
    by_cases hv : valD D 0 < 9223372036854775808
    · have a1 : atoiOk D = true := by unfold atoiOk; rw [i1 hv]
      have a2 : atoiVal D = (valD D 0 : Int) := by unfold atoiVal; rw [i1 hv]
      rw [a1, a2, cond_true]
      by_cases hb : (valD D 0 : Int) > 1000000
      · rw [dtrue hb, cond_true, Int.min_eq_right (by omega)]
        by_cases hq : q.1 = 45
        · rw [dtrue hq, if_pos hq]; rfl
        · rw [dfalse hq, if_neg hq]; rfl
      · rw [dfalse hb, cond_false, Int.min_eq_left (by omega), wrap_id (by omega) (by omega)]
        by_cases hq : q.1 = 45
        · rw [dtrue hq, if_pos hq, cond_true]; congr 1; omega
        · rw [dfalse hq, if_neg hq, cond_false]
    · have a1 : atoiOk D = false := by unfold atoiOk; rw [i2 (by omega)]
      rw [a1, cond_false, Int.min_eq_right (by omega)]
      by_cases hq : q.1 = 45
      · rw [dtrue hq, if_pos hq]; rfl
      · rw [dfalse hq, if_neg hq]; rfl

theorem trimL_head (a : Str) : ∀ b t, trimL a [48] = b :: t → b ≠ 48 := fun b t h hb => by
  have h2 := List.head?_dropWhile_not (([48] : Str).contains ·) a
  have e : a.dropWhile (([48] : Str).contains ·) = b :: t := h
  rw [e] at h2
  subst hb
  exact absurd (show (([48] : Str).contains 48) = false from h2) (by decide)
theorem trimL_sub (a : Str) : ∀ x ∈ trimL a [48], x ∈ a := fun x hx => (List.dropWhile_sublist _).subset hx
theorem trimR_cases (a : Str) : trimR a [48] = [] ∨ ∃ l b, trimR a [48] = l ++ [b] ∧ b ≠ 48 := by
  unfold trimR
  have h2 := List.head?_dropWhile_not (([48] : Str).contains ·) a.reverse
  cases h : a.reverse.dropWhile (([48] : Str).contains ·) with
  | nil => exact .inl rfl
  | cons b t =>
    rw [h] at h2
    refine .inr ⟨t.reverse, b, by simp, fun hb => ?_⟩
    subst hb
    exact absurd (show (([48] : Str).contains 48) = false from h2) (by decide)
theorem trimR_pre (a : Str) : ∃ n, a = trimR a [48] ++ zeros n := by
  have h := List.takeWhile_append_dropWhile (p := (([48] : Str).contains ·)) (l := a.reverse)
  have h2 := congrArg List.reverse h
  rw [List.reverse_append, List.reverse_reverse] at h2
  refine ⟨(a.reverse.takeWhile (([48] : Str).contains ·)).length, ?_⟩
  have hz : (a.reverse.takeWhile (([48] : Str).contains ·)).reverse = zeros (a.reverse.takeWhile (([48] : Str).contains ·)).length := by
    unfold zeros
    rw [List.eq_replicate_iff]
    refine ⟨List.length_reverse, fun x hx => ?_⟩
    have h3 := List.all_takeWhile (l := a.reverse) (p := (([48] : Str).contains ·))
    have := List.all_eq_true.1 h3 x (List.mem_reverse.1 hx)
    simpa using this
  rw [← hz]
  exact h2.symm

def finD (neg : Bool) (all : Str) (x : Int) : Dcm × Bool :=
  if trimR (trimL all [48]) [48] = [] then (⟨0, 0⟩, true)
  else mkD (if neg then -(valD (trimR (trimL all [48]) [48]) 0 : Int) else (valD (trimR (trimL all [48]) [48]) 0 : Int)) (x + (((trimL all [48]).length : Int) - ((trimR (trimL all [48]) [48]).length : Int)))

theorem make_min {R : Type} (m x : Int) (k : Dcm → Bool → Option R) : decimal_Make m x k = decimal_Make m (min x 1000000) k := by
  have e : ∀ x, decimal_Make m x k = decimal_Make_X decimal_within_int decimal_Make_4_0_L m x k := fun _ => rfl
  rw [e, e]
  unfold decimal_Make_X
  have : min (min x 1000000) 1000000 = min x 1000000 := by omega
  rw [this]
theorem mkD_min (u x : Int) : mkD u (min x 1000000) = mkD u x := by
  unfold mkD
  by_cases h : x ≤ 1000000
  · rw [Int.min_eq_left h]
  · rw [if_neg (by omega), if_neg (by omega)]
theorem make_unit {R : Type} (u x : Int) (hu : Int.tmod u 10 ≠ 0) (hb : I64 u) (hx : -9223372036854775808 ≤ x) (k : Dcm → Bool → Option R) : decimal_Make u x k = k (mkD u x).1 (mkD u x).2 := by
  rw [make_min, ← mkD_min u x]
  have := make_ok (R := R) u 0 (min x 1000000) hu (by simpa using hb) (by omega) (by omega) k
  simpa using this

theorem short_facts (all : Str) (h : ∀ x ∈ all, isDig x) (h0 : trimR (trimL all [48]) [48] ≠ []) :
    (∀ x ∈ trimR (trimL all [48]) [48], isDig x) ∧ valD (trimR (trimL all [48]) [48]) 0 % 10 ≠ 0 ∧ 10 ^ ((trimR (trimL all [48]) [48]).length - 1) ≤ valD (trimR (trimL all [48]) [48]) 0 := by
  obtain ⟨n, hn⟩ := trimR_pre (trimL all [48])
  have hd : ∀ x ∈ trimR (trimL all [48]) [48], isDig x := fun x hx => h x (trimL_sub _ _ (by rw [hn]; simp [hx]))
  refine ⟨hd, ?_, ?_⟩
  · rcases trimR_cases (trimL all [48]) with e | ⟨l, b, e, hb⟩
    · exact (h0 e).elim
    · have hbd := hd b (by rw [e]; simp)
      rw [e, valD_app]
      simp only [valD]
      unfold isDig at hbd
      have : b.toNat ≠ 48 := fun h => hb (UInt8.toNat_inj.1 h)
      omega
  · cases e : trimR (trimL all [48]) [48] with
    | nil => exact (h0 e).elim
    | cons b t =>
      have hb : b ≠ 48 := trimL_head all b (t ++ zeros n) (by rw [hn, e]; rfl)
      have hbd := hd b (by rw [e]; simp)
      unfold isDig at hbd
      have h48 : b.toNat ≠ 48 := fun h => hb (UInt8.toNat_inj.1 h)
      have := valD_ge t (10 * 0 + (b.toNat - 48))
      have h2 : 1 * 10 ^ t.length ≤ (10 * 0 + (b.toNat - 48)) * 10 ^ t.length := Nat.mul_le_mul_right _ (by omega)
      simp only [valD, List.length_cons, Nat.add_sub_cancel]
      omega

theorem mkD_far {u : Int} (x : Int) (h : 1000000000000000 < u.natAbs) : mkD u x = (⟨0, 0⟩, false) := by
  unfold mkD
  rw [if_neg (by omega)]

theorem fin_ok {R : Type} (y2 : Int) (z11 : Str) (z19 : Int) (z20 : Str) (h : ∀ x ∈ z11, isDig x) (hl : z11.length ≤ 1000) (hx : -2000000 ≤ z19 ∧ z19 ≤ 2000000) (k0 : Dcm → Bool → Option R) :
    (chk (isAsc ([48] : Str) && decide (([48] : Str).length < 4294967281)) (chk (isAsc ([48] : Str) && decide (([48] : Str).length < 4294967281)) (bif (!(z20 == ([] : Str))) then (k0 (⟨0, 0⟩ : Dcm) false) else (bif (decide (((trimR (trimL z11 ([48] : Str)) ([48] : Str)).length : Int) > (18 : Int))) then (k0 (⟨0, 0⟩ : Dcm) false) else (chk (decide (1 + (trimR (trimL z11 ([48] : Str)) ([48] : Str)).length ≤ 9223372036854775807)) (chk (decide ((([48] : Str) ++ (trimR (trimL z11 ([48] : Str)) ([48] : Str))).length ≤ 281474976710656)) (bif atoiOk (([48] : Str) ++ (trimR (trimL z11 ([48] : Str)) ([48] : Str))) then (bif (y2 != 0) then (decimal_Make (IntKind.i64.wrap (0 - (atoiVal (([48] : Str) ++ (trimR (trimL z11 ([48] : Str)) ([48] : Str)))))) (IntKind.i64.wrap (z19 + (IntKind.i64.wrap (((trimL z11 ([48] : Str)).length : Int) - ((trimR (trimL z11 ([48] : Str)) ([48] : Str)).length : Int))))) (fun y25 y26 => k0 y25 y26)) else (decimal_Make (atoiVal (([48] : Str) ++ (trimR (trimL z11 ([48] : Str)) ([48] : Str)))) (IntKind.i64.wrap (z19 + (IntKind.i64.wrap (((trimL z11 ([48] : Str)).length : Int) - ((trimR (trimL z11 ([48] : Str)) ([48] : Str)).length : Int))))) (fun y27 y28 => k0 y27 y28))) else (bif (y2 != 0) then (decimal_Make (IntKind.i64.wrap (0 - (atoiVal (([48] : Str) ++ (trimR (trimL z11 ([48] : Str)) ([48] : Str)))))) (IntKind.i64.wrap (z19 + (IntKind.i64.wrap (((trimL z11 ([48] : Str)).length : Int) - ((trimR (trimL z11 ([48] : Str)) ([48] : Str)).length : Int))))) (fun y25 y26 => k0 y25 y26)) else (decimal_Make (atoiVal (([48] : Str) ++ (trimR (trimL z11 ([48] : Str)) ([48] : Str)))) (IntKind.i64.wrap (z19 + (IntKind.i64.wrap (((trimL z11 ([48] : Str)).length : Int) - ((trimR (trimL z11 ([48] : Str)) ([48] : Str)).length : Int))))) (fun y27 y28 => k0 y27 y28)))))))))) =
    if z20 = [] then k0 (finD (y2 != 0) z11 z19).1 (finD (y2 != 0) z11 z19).2 else k0 ⟨0, 0⟩ false := by
  have q3 : (isAsc ([48] : Str) && decide (([48] : Str).length < 4294967281)) = true := rfl
  have htl : (trimL z11 [48]).length ≤ z11.length := drop_le _ _
  obtain ⟨n, hn⟩ := trimR_pre (trimL z11 [48])
  have htr : (trimL z11 [48]).length = (trimR (trimL z11 [48]) [48]).length + n := by have := congrArg List.length hn; rw [List.length_append, zeros_len] at this; exact this
  rw [q3, chk_pos rfl, chk_pos rfl]
  by_cases hz : z20 = []
  · subst hz
    have hbe : ((([] : Str) == ([] : Str))) = true := rfl
    rw [hbe, if_pos rfl]
    simp only [Bool.not_true, cond_false]
    have w0 : IntKind.i64.wrap (((trimL z11 [48]).length : Int) - ((trimR (trimL z11 [48]) [48]).length : Int)) = ((trimL z11 [48]).length : Int) - ((trimR (trimL z11 [48]) [48]).length : Int) := wrap_id (by omega) (by omega)
    have w1 : IntKind.i64.wrap (z19 + (((trimL z11 [48]).length : Int) - ((trimR (trimL z11 [48]) [48]).length : Int))) = z19 + (((trimL z11 [48]).length : Int) - ((trimR (trimL z11 [48]) [48]).length : Int)) := wrap_id (by omega) (by omega)
    rw [w0, w1, chk_pos (dtrue (by omega)), chk_pos (dtrue (by simp only [List.length_append, List.length_cons, List.length_nil]; omega)), Bool.cond_self]
    unfold finD
    have hc : (([48] : Str) ++ (trimR (trimL z11 ([48] : Str)) ([48] : Str))) = 48 :: trimR (trimL z11 [48]) [48] := rfl
    rw [hc]
    by_cases h0 : trimR (trimL z11 [48]) [48] = []
    · rw [h0, if_pos rfl]
      have a0 : atoiVal (48 :: ([] : Str)) = 0 := by decide +kernel
      have a1 : decide (((([] : Str)).length : Int) > 18) = false := rfl
      have a2 : IntKind.i64.wrap (0 - 0) = 0 := by decide
      rw [a0, a1, cond_false, a2, make_zero, Bool.cond_self]
    · rw [if_neg h0]
      obtain ⟨f1, f2, f3⟩ := short_facts z11 h h0
      have hX : -3000000 ≤ z19 + (((trimL z11 [48]).length : Int) - ((trimR (trimL z11 [48]) [48]).length : Int)) := by omega
      generalize trimR (trimL z11 [48]) [48] = sh at *
      generalize (z19 + (((trimL z11 [48]).length : Int) - (sh.length : Int))) = X at *
      have hpos : 1 ≤ sh.length := by cases sh with | nil => exact (h0 rfl).elim | cons _ _ => simp
      by_cases h18 : sh.length ≤ 18
      · rw [dfalse (show ¬ (sh.length : Int) > 18 by omega), cond_false]
        have hlt := valD_lt sh 0 f1
        have hp : (10 : Nat) ^ sh.length ≤ 10 ^ 18 := Nat.pow_le_pow_right (by omega) h18
        have e18 : (10 : Nat) ^ 18 = 1000000000000000000 := rfl
        have v48 : valD (48 :: sh) 0 = valD sh 0 := rfl
        have ha : atoiVal (48 :: sh) = (valD sh 0 : Int) := by
          obtain ⟨i1, _⟩ := atoi_dig (48 :: sh) (fun x hx => by rcases List.mem_cons.1 hx with rfl | hx; (unfold isDig; decide); exact f1 x hx) (by simp)
          unfold atoiVal
          rw [i1 (by rw [v48]; omega), v48]
        rw [ha]
        have hm : Int.tmod (valD sh 0 : Int) 10 ≠ 0 := by rw [Int.tmod_eq_emod_of_nonneg (by omega)]; omega
        cases hy : (y2 != 0) with
        | true =>
          rw [cond_true, if_pos rfl, wrap_id (by omega) (by omega)]
          have e0 : (0 - (valD sh 0 : Int)) = -(valD sh 0 : Int) := by omega
          rw [e0]
          exact make_unit _ _ (tmod_neg hm) (by unfold I64; omega) (by omega) _
        | false =>
          rw [cond_false, if_neg (by simp)]
          exact make_unit _ _ hm (by unfold I64; omega) (by omega) _
      · rw [dtrue (show (sh.length : Int) > 18 by omega), cond_true]
        have hp : (10 : Nat) ^ 18 ≤ 10 ^ (sh.length - 1) := Nat.pow_le_pow_right (by omega) (by omega)
        have e18 : (10 : Nat) ^ 18 = 1000000000000000000 := rfl
        rw [mkD_far _ (by split <;> omega)]
  · have hbe : (z20 == ([] : Str)) = false := by rw [beq_eq_false_iff_ne]; exact hz
    rw [hbe, if_neg hz]
    rfl

def noD : Dcm × Bool := (⟨0, 0⟩, false)
def tailD (neg : Bool) (all : Str) (x : Int) (X : Str) : Dcm × Bool :=
  if (signP [101, 69] X).1 = 0 then (if (signP [101, 69] X).2 = [] then finD neg all x else noD)
  else if (expP (signP [101, 69] X).2).2.1 = false then noD
  else if (expP (signP [101, 69] X).2).2.2 = [] then finD neg all (x + (expP (signP [101, 69] X).2).1) else noD

def parseS (s : Str) : Dcm × Bool :=
  let q := signP [45] s
  let I := takeD q.2
  let r := dropD q.2
  if 400 < s.length then noD else if I = [] then noD else if 1 < I.length ∧ (I.getD 0 0).toNat = 48 then noD
  else if (signP [46] r).1 = 0 then tailD (q.1 != 0) I 0 (signP [46] r).2
  else if takeD (signP [46] r).2 = [] then noD
  else tailD (q.1 != 0) (I ++ takeD (signP [46] r).2) (-((takeD (signP [46] r).2).length : Int)) (dropD (signP [46] r).2)

theorem expP_lim (X : Str) : -1000000 ≤ (expP X).1 ∧ (expP X).1 ≤ 1000000 := by
  unfold expP
  simp only
  split <;> omega

theorem neN (n : Nat) : (((n : Nat) : Int) != 0) = (n != 0) := by
  cases n with
  | zero => rfl
  | succ n => rw [bne_iff_ne.2 (by omega), bne_iff_ne.2 (by omega)]

theorem tailD_ok {R : Type} (q : Nat) (all : Str) (x : Int) (X : Str) (ha : ∀ c ∈ all, isDig c) (hl : all.length ≤ 900) (h1 : -1000 ≤ x) (h2 : x ≤ 0) (hX : X.length ≤ 1000) (k : Dcm → Bool → Option R) :
    decimal_reader_sign_e74a ([101, 69] : Str) X (fun y14 y15 => bif (y14 != 0) then (decimal_reader_exponent_abbd y15 (fun y16 y17 y18 => bif (!y17) then (k (⟨0, 0⟩ : Dcm) false) else (chk (isAsc ([48] : Str) && decide (([48] : Str).length < 4294967281)) (chk (isAsc ([48] : Str) && decide (([48] : Str).length < 4294967281)) (bif (!(y18 == ([] : Str))) then (k (⟨0, 0⟩ : Dcm) false) else (bif (decide (((trimR (trimL all ([48] : Str)) ([48] : Str)).length : Int) > (18 : Int))) then (k (⟨0, 0⟩ : Dcm) false) else (chk (decide (1 + (trimR (trimL all ([48] : Str)) ([48] : Str)).length ≤ 9223372036854775807)) (chk (decide ((([48] : Str) ++ (trimR (trimL all ([48] : Str)) ([48] : Str))).length ≤ 281474976710656)) (bif atoiOk (([48] : Str) ++ (trimR (trimL all ([48] : Str)) ([48] : Str))) then (bif ((q : Int) != 0) then (decimal_Make (IntKind.i64.wrap (0 - (atoiVal (([48] : Str) ++ (trimR (trimL all ([48] : Str)) ([48] : Str)))))) (IntKind.i64.wrap ((IntKind.i64.wrap (x + y16)) + (IntKind.i64.wrap (((trimL all ([48] : Str)).length : Int) - ((trimR (trimL all ([48] : Str)) ([48] : Str)).length : Int))))) (fun y25 y26 => k y25 y26)) else (decimal_Make (atoiVal (([48] : Str) ++ (trimR (trimL all ([48] : Str)) ([48] : Str)))) (IntKind.i64.wrap ((IntKind.i64.wrap (x + y16)) + (IntKind.i64.wrap (((trimL all ([48] : Str)).length : Int) - ((trimR (trimL all ([48] : Str)) ([48] : Str)).length : Int))))) (fun y27 y28 => k y27 y28))) else (bif ((q : Int) != 0) then (decimal_Make (IntKind.i64.wrap (0 - (atoiVal (([48] : Str) ++ (trimR (trimL all ([48] : Str)) ([48] : Str)))))) (IntKind.i64.wrap ((IntKind.i64.wrap (x + y16)) + (IntKind.i64.wrap (((trimL all ([48] : Str)).length : Int) - ((trimR (trimL all ([48] : Str)) ([48] : Str)).length : Int))))) (fun y25 y26 => k y25 y26)) else (decimal_Make (atoiVal (([48] : Str) ++ (trimR (trimL all ([48] : Str)) ([48] : Str)))) (IntKind.i64.wrap ((IntKind.i64.wrap (x + y16)) + (IntKind.i64.wrap (((trimL all ([48] : Str)).length : Int) - ((trimR (trimL all ([48] : Str)) ([48] : Str)).length : Int))))) (fun y27 y28 => k y27 y28)))))))))))) else (chk (isAsc ([48] : Str) && decide (([48] : Str).length < 4294967281)) (chk (isAsc ([48] : Str) && decide (([48] : Str).length < 4294967281)) (bif (!(y15 == ([] : Str))) then (k (⟨0, 0⟩ : Dcm) false) else (bif (decide (((trimR (trimL all ([48] : Str)) ([48] : Str)).length : Int) > (18 : Int))) then (k (⟨0, 0⟩ : Dcm) false) else (chk (decide (1 + (trimR (trimL all ([48] : Str)) ([48] : Str)).length ≤ 9223372036854775807)) (chk (decide ((([48] : Str) ++ (trimR (trimL all ([48] : Str)) ([48] : Str))).length ≤ 281474976710656)) (bif atoiOk (([48] : Str) ++ (trimR (trimL all ([48] : Str)) ([48] : Str))) then (bif ((q : Int) != 0) then (decimal_Make (IntKind.i64.wrap (0 - (atoiVal (([48] : Str) ++ (trimR (trimL all ([48] : Str)) ([48] : Str)))))) (IntKind.i64.wrap (x + (IntKind.i64.wrap (((trimL all ([48] : Str)).length : Int) - ((trimR (trimL all ([48] : Str)) ([48] : Str)).length : Int))))) (fun y25 y26 => k y25 y26)) else (decimal_Make (atoiVal (([48] : Str) ++ (trimR (trimL all ([48] : Str)) ([48] : Str)))) (IntKind.i64.wrap (x + (IntKind.i64.wrap (((trimL all ([48] : Str)).length : Int) - ((trimR (trimL all ([48] : Str)) ([48] : Str)).length : Int))))) (fun y27 y28 => k y27 y28))) else (bif ((q : Int) != 0) then (decimal_Make (IntKind.i64.wrap (0 - (atoiVal (([48] : Str) ++ (trimR (trimL all ([48] : Str)) ([48] : Str)))))) (IntKind.i64.wrap (x + (IntKind.i64.wrap (((trimL all ([48] : Str)).length : Int) - ((trimR (trimL all ([48] : Str)) ([48] : Str)).length : Int))))) (fun y25 y26 => k y25 y26)) else (decimal_Make (atoiVal (([48] : Str) ++ (trimR (trimL all ([48] : Str)) ([48] : Str)))) (IntKind.i64.wrap (x + (IntKind.i64.wrap (((trimL all ([48] : Str)).length : Int) - ((trimR (trimL all ([48] : Str)) ([48] : Str)).length : Int))))) (fun y27 y28 => k y27 y28))))))))))) = k (tailD (q != 0) all x X).1 (tailD (q != 0) all x X).2 := by
  rw [sign_ok _ _ (by omega)]
  unfold tailD
  have l5 := signP_le [101, 69] X
  generalize signP [101, 69] X = g at *
  rw [neN]
  by_cases hg : g.1 = 0
  · rw [if_pos hg, hg]
    simp only [bne_self_eq_false, cond_false]
    rw [fin_ok _ _ _ _ ha (by omega) (by omega), neN]
    split <;> rfl
  · rw [if_neg hg, bne_iff_ne.2 hg, cond_true, exp_any _ (by omega)]
    have hlim := expP_lim g.2
    generalize expP g.2 = z at *
    rw [wrap_id (n := x + z.1) (by omega) (by omega)]
    cases hz : z.2.1 with
    | false => rfl
    | true =>
      rw [Bool.not_true, cond_false, fin_ok _ _ _ _ ha (by omega) (by omega), neN, if_neg (show ¬ (true = false) by simp)]
      split <;> rfl

theorem parse_any {R : Type} (s : Str) (hs : s.length ≤ 4000000000) (k : Dcm → Bool → Option R) : decimal_Parse s k = k (parseS s).1 (parseS s).2 := by
  have e : decimal_Parse s k = decimal_Parse_X decimal_Make decimal_reader_sign_e74a decimal_reader_digits_abbd decimal_reader_exponent_abbd s k := rfl
  rw [e]
  unfold decimal_Parse_X
  have l1 := signP_le [45] s
  rw [sign_ok _ _ hs]
  unfold parseS
  simp only
  generalize signP [45] s = q at *
  rw [digits_any _ (by omega)]
  have l2 := take_le q.2
  have l3 := dropD_le q.2
  have dI := take_dig q.2
  generalize takeD q.2 = I at *
  generalize dropD q.2 = r at *
  by_cases h400 : 400 < s.length
  · rw [dtrue (show (s.length : Int) > 400 by omega), cond_true, if_pos h400]
    rfl
  rw [dfalse (show ¬ (s.length : Int) > 400 by omega), cond_false, if_neg h400]
  by_cases hI : I = []
  · subst hI
    rw [if_pos rfl]
    rfl
  have hne : (I == ([] : Str)) = false := by rw [beq_eq_false_iff_ne]; exact hI
  rw [hne, cond_false, if_neg hI]
  have hpos : 1 ≤ I.length := by cases I with | nil => exact (hI rfl).elim | cons _ _ => simp
  have q48 : (((I.getD 0 0).toNat : Int) == 48) = decide ((I.getD 0 0).toNat = 48) := eqI _ 48
  rw [chk_pos (dtrue (show (0 : Int) < I.length by omega)), q48]
  by_cases h48 : 1 < I.length ∧ (I.getD 0 0).toNat = 48
  · rw [if_pos h48, dtrue (show (I.length : Int) > 1 by omega), dtrue h48.2]
    rfl
  rw [if_neg h48]
  have cut : ∀ x : Option R, (bif decide ((I.length : Int) > 1) then (bif decide ((I.getD 0 0).toNat = 48) then k ⟨0, 0⟩ false else x) else x) = x := fun x => by
    by_cases h1 : 1 < I.length
    · rw [dtrue (show (I.length : Int) > 1 by omega), dfalse (fun h => h48 ⟨h1, h⟩)]; rfl
    · rw [dfalse (show ¬ (I.length : Int) > 1 by omega)]; rfl
  rw [cut]
  rw [sign_ok _ _ (by omega)]
  have l4 := signP_le [46] r
  generalize signP [46] r = p at *
  rw [neN]
  by_cases hp : p.1 = 0
  · rw [if_pos hp, hp]
    simp only [bne_self_eq_false, cond_false]
    exact tailD_ok q.1 I 0 p.2 dI (by omega) (by omega) (by omega) (by omega) k
  · rw [if_neg hp, bne_iff_ne.2 hp, cond_true, digits_any _ (by omega)]
    have l5 := take_le p.2
    have l6 := dropD_le p.2
    have dF := take_dig p.2
    generalize takeD p.2 = F at *
    generalize dropD p.2 = Y at *
    by_cases hF : F = []
    · subst hF
      rw [if_pos rfl]
      rfl
    have hne : (F == ([] : Str)) = false := by rw [beq_eq_false_iff_ne]; exact hF
    rw [hne, cond_false, if_neg hF, chk_pos (dtrue (by omega)), wrap_id (n := 0 - (F.length : Int)) (by omega) (by omega)]
    have e0 : (0 : Int) - (F.length : Int) = -(F.length : Int) := by omega
    rw [e0]
    exact tailD_ok q.1 (I ++ F) (-(F.length : Int)) Y (fun c hc => (List.mem_append.1 hc).elim (dI c) (dF c)) (by rw [List.length_append]; omega) (by omega) (by omega) (by omega) k
end Go.Proofs.YtmlkkgfenfdndaaDoor

set_option linter.unusedVariables false
set_option maxRecDepth 100000
namespace Go.Proofs.YtmlkkgfenfdndaaDoor
open Go Go.Yard Go.Lib

theorem longP_sfx {s r : Str} {c : Nat} (h : longP s = some (c, r)) : r <:+ s := by
  unfold longP at h
  split at h
  · cases h
  · rename_i v r1 hu
    obtain ⟨_, _, hr⟩ := unitP_lt hu
    have s1 : r1 <:+ s := by rw [hr]; exact List.drop_suffix _ _
    split at h
    · cases h; exact s1
    · split at h
      · cases h
      · split at h
        · split at h
          · cases h
          · rename_i w r2 hu2
            obtain ⟨_, _, hr2⟩ := unitP_lt hu2
            split at h
            · simp only [Option.some.injEq, Prod.mk.injEq] at h
              obtain ⟨_, rfl⟩ := h
              rw [hr2]
              exact ((List.drop_suffix _ _).trans (List.drop_suffix _ _)).trans s1
            · cases h
        · cases h
theorem escP_sfx {s r : Str} {c : Nat} (h : escP s = some (c, r)) : r <:+ s := by
  cases s with
  | nil => cases h
  | cons b t =>
    have st : t <:+ b :: t := List.suffix_cons b t
    simp only [escP] at h
    split at h
    · cases h; exact st
    split at h
    · cases h; exact st
    split at h
    · cases h; exact st
    split at h
    · cases h; exact st
    split at h
    · cases h; exact st
    split at h
    · cases h; exact st
    split at h
    · exact (longP_sfx h).trans st
    · cases h
theorem plainP_sfx {s r : Str} {c : Nat} (h : plainP s = some (c, r)) : r <:+ s := by
  unfold plainP at h
  split at h
  · cases h
  split at h
  · cases h
  split at h
  · cases h
  simp only [Option.some.injEq, Prod.mk.injEq] at h
  rw [← h.2]
  exact List.drop_suffix _ _
theorem stepU_sfx {s r : Str} {c : Nat} (h : stepU s = some (c, r)) : r <:+ s := by
  unfold stepU at h
  split at h
  · exact (escP_sfx h).trans (List.drop_suffix _ _)
  · exact plainP_sfx h
theorem uq_sfx : ∀ (n : Nat) (s o o' r : Str), uq n s o = some (o', r) → r <:+ s ∧ r.length < s.length ∧ ∃ rs : List Nat, (∀ c ∈ rs, vr c) ∧ o' = o ++ encL rs
  | 0, _, _, _, _, h => by cases h
  | n + 1, s, o, o', r, h => by
    simp only [uq] at h
    split at h
    · rename_i h34
      simp only [Option.some.injEq, Prod.mk.injEq] at h
      obtain ⟨rfl, rfl⟩ := h
      refine ⟨List.drop_suffix _ _, ?_, [], by simp, by simp [encL]⟩
      cases s with
      | nil => cases h34
      | cons b t => simp
    · split at h
      · cases h
      · rename_i c r1 hs
        obtain ⟨h1, h2, rs, h3, h4⟩ := uq_sfx n r1 (o ++ enc c) o' r h
        obtain ⟨hv, hl⟩ := stepU_ok hs
        refine ⟨h1.trans (stepU_sfx hs), by omega, c :: rs, fun x hx => ?_, ?_⟩
        · rcases List.mem_cons.1 hx with rfl | hx
          · exact hv
          · exact h3 x hx
        · rw [h4]; simp [encL]
theorem uqS_sfx {s o r : Str} (h : uqS s = some (o, r)) : r <:+ s ∧ r.length + 1 < s.length ∧ ∃ rs : List Nat, (∀ c ∈ rs, vr c) ∧ o = encL rs := by
  unfold uqS at h
  split at h
  · rename_i h34
    obtain ⟨h1, h2, rs, h3, h4⟩ := uq_sfx _ _ _ _ _ h
    refine ⟨h1.trans (List.drop_suffix _ _), ?_, rs, h3, by simpa using h4⟩
    rw [List.length_drop] at h2
    omega
  · cases h
theorem sfx_drop {s r : Str} (h : r <:+ s) : r = s.drop (s.length - r.length) := by
  obtain ⟨t, rfl⟩ := h
  rw [List.length_append, Nat.add_sub_cancel, List.drop_left]

def numS : Str := [48, 49, 50, 51, 52, 53, 54, 55, 56, 57, 43, 45, 46, 101, 69]
def letS : Str := [97, 98, 99, 100, 101, 102, 103, 104, 105, 106, 107, 108, 109, 110, 111, 112, 113, 114, 115, 116, 117, 118, 119, 120, 121, 122]
def blaS : Str := [32, 9, 10, 13]
def sigS : Str := [123, 125, 91, 93, 44, 58]
def numB (b : UInt8) : Bool := numS.contains b
def letB (b : UInt8) : Bool := letS.contains b
def blaB (b : UInt8) : Bool := blaS.contains b
def sigB (b : UInt8) : Bool := sigS.contains b
def trueS : Str := [116, 114, 117, 101]
def falseS : Str := [102, 97, 108, 115, 101]
def nullS : Str := [110, 117, 108, 108]

def tokS (s : Str) : Option (Token × Str) :=
  match s with
  | [] => none
  | c :: t =>
    if c.toNat = 45 ∨ (48 ≤ c.toNat ∧ c.toNat ≤ 57) then
      (if (parseS (s.takeWhile numB)).2 then some (⟨3, s.takeWhile numB, (parseS (s.takeWhile numB)).1, 0⟩, s.dropWhile numB) else none)
    else if c.toNat = 34 then (match uqS s with | some (o, r) => some (⟨2, o, ⟨0, 0⟩, 0⟩, r) | none => none)
    else if sigB c then some (⟨1, [c], ⟨0, 0⟩, 0⟩, t)
    else if s.takeWhile letB = trueS ∨ s.takeWhile letB = falseS ∨ s.takeWhile letB = nullS then some (⟨4, s.takeWhile letB, ⟨0, 0⟩, 0⟩, s.dropWhile letB)
    else none

theorem tw_nil {p : UInt8 → Bool} {c : UInt8} {t : Str} (h : p c = true) : ((c :: t).dropWhile p).length < (c :: t : Str).length := by
  rw [List.dropWhile_cons, if_pos h]
  have := drop_le p t
  simp only [List.length_cons]
  omega

theorem tokS_sfx {s r : Str} {t : Token} (h : tokS s = some (t, r)) : r <:+ s ∧ r.length < s.length := by
  cases s with
  | nil => cases h
  | cons c u =>
    simp only [tokS] at h
    split at h
    · rename_i hc
      split at h
      · simp only [Option.some.injEq, Prod.mk.injEq] at h
        rw [← h.2]
        refine ⟨List.dropWhile_suffix _, tw_nil ?_⟩
        have all : ∀ n : Fin 256, (n.val = 45 ∨ (48 ≤ n.val ∧ n.val ≤ 57)) → numB (UInt8.ofNat n.val) = true := by decide +kernel
        have := all ⟨c.toNat, UInt8.toNat_lt c⟩ hc
        simpa using this
      · cases h
    · split at h
      · split at h
        · rename_i o q hq
          simp only [Option.some.injEq, Prod.mk.injEq] at h
          obtain ⟨_, rfl⟩ := h
          obtain ⟨h1, h2, _⟩ := uqS_sfx hq
          exact ⟨h1, by omega⟩
        · cases h
      · split at h
        · simp only [Option.some.injEq, Prod.mk.injEq] at h
          rw [← h.2]
          exact ⟨List.suffix_cons _ _, by simp⟩
        · split at h
          · rename_i hw
            simp only [Option.some.injEq, Prod.mk.injEq] at h
            rw [← h.2]
            refine ⟨List.dropWhile_suffix _, tw_nil ?_⟩
            cases hl : letB c with
            | true => rfl
            | false =>
              have e : (c :: u).takeWhile letB = [] := by rw [List.takeWhile_cons, hl]; rfl
              rw [e] at hw
              rcases hw with hw | hw | hw <;> cases hw
          · cases h

def putT (t : Token) (n : Int) : Token := ⟨t.kind, t.text, t.num, n⟩

def scanN : Nat → Nat → Str → List Token → List Token × Int × Int
  | 0, _, _, _ => ([], 0, 0)
  | n + 1, p, s, out =>
    if s.dropWhile blaB = [] then (out ++ [⟨5, [], ⟨0, 0⟩, ((p + (s.takeWhile blaB).length : Nat) : Int)⟩], 0, 0)
    else match tokS (s.dropWhile blaB) with
      | none => ([], 30, ((p + (s.takeWhile blaB).length : Nat) : Int))
      | some (t, r) => scanN n (p + (s.length - r.length)) r (out ++ [putT t ((p + (s.takeWhile blaB).length : Nat) : Int)])

def scanS (s : Str) : List Token × Int × Int := if 20000 < s.length then ([], 30, 0) else scanN (s.length + 1) 0 s []

theorem scanN_fuel : ∀ (n m p : Nat) (s : Str) (out : List Token), s.length < n → s.length < m → scanN n p s out = scanN m p s out
  | 0, _, _, _, _, h, _ => by omega
  | _, 0, _, _, _, _, h => by omega
  | n + 1, m + 1, p, s, out, h1, h2 => by
    simp only [scanN]
    split
    · rfl
    · split
      · rfl
      · rename_i t r hr
        have h3 := (tokS_sfx hr).2
        have h4 := drop_le blaB s
        exact scanN_fuel n m _ r _ (by omega) (by omega)

abbrev Item3 := Str × Str × Token
def layW : List Item3 → Str → Str
  | [], z => z
  | x :: l, z => x.1 ++ (x.2.1 ++ layW l z)
def okW : List Item3 → Str → Prop
  | [], _ => True
  | x :: l, z => (∀ b ∈ x.1, blaB b = true) ∧ (∃ c u, x.2.1 = c :: u ∧ blaB c = false) ∧ tokS (x.2.1 ++ layW l z) = some (x.2.2, layW l z) ∧ okW l z
def tokW : Nat → List Item3 → List Token
  | _, [] => []
  | p, x :: l => putT x.2.2 ((p + x.1.length : Nat) : Int) :: tokW (p + x.1.length + x.2.1.length) l
def lenW : List Item3 → Nat
  | [] => 0
  | x :: l => x.1.length + x.2.1.length + lenW l
theorem layW_len : ∀ (l : List Item3) (z : Str), (layW l z).length = lenW l + z.length
  | [], z => by simp [layW, lenW]
  | x :: l, z => by simp only [layW, lenW, List.length_append, layW_len l z]; omega

theorem tw_gap : ∀ (g r : Str), (∀ b ∈ g, blaB b = true) → (∃ c u, r = c :: u ∧ blaB c = false) ∨ r = [] → (g ++ r).takeWhile blaB = g ∧ (g ++ r).dropWhile blaB = r
  | [], r, _, h => by
    rcases h with ⟨c, u, rfl, hc⟩ | rfl
    · exact ⟨by rw [List.nil_append, List.takeWhile_cons, hc]; rfl, by rw [List.nil_append, List.dropWhile_cons, hc]; rfl⟩
    · exact ⟨rfl, rfl⟩
  | b :: g, r, hg, h => by
    have hb := hg b (by simp)
    obtain ⟨h1, h2⟩ := tw_gap g r (fun x hx => hg x (by simp [hx])) h
    refine ⟨?_, ?_⟩
    · rw [List.cons_append, List.takeWhile_cons, hb, if_pos rfl, h1]
    · rw [List.cons_append, List.dropWhile_cons, hb, if_pos rfl, h2]

theorem scan_words : ∀ (l : List Item3) (z : Str) (n p : Nat) (out : List Token), okW l z → l.length < n → scanN n p (layW l z) out = scanN (n - l.length) (p + lenW l) z (out ++ tokW p l)
  | [], z, n, p, out, _, _ => by simp [layW, lenW, tokW]
  | x :: l, z, n, p, out, h, hn => by
    obtain ⟨h1, ⟨c, u, h2, h3⟩, h4, h5⟩ := h
    obtain ⟨n, rfl⟩ : ∃ m, n = m + 1 := ⟨n - 1, by omega⟩
    simp only [List.length_cons] at hn
    obtain ⟨t1, t2⟩ := tw_gap x.1 (x.2.1 ++ layW l z) h1 (.inl ⟨c, u ++ layW l z, by rw [h2]; rfl, h3⟩)
    have hlay : layW (x :: l) z = x.1 ++ (x.2.1 ++ layW l z) := rfl
    have hne : ¬ (x.2.1 ++ layW l z = []) := by rw [h2]; simp
    have hw : 0 < x.2.1.length := by rw [h2]; simp
    simp only [scanN]
    rw [hlay, t1, t2, if_neg hne, h4]
    simp only
    have e1 : (x.1 ++ (x.2.1 ++ layW l z)).length - (layW l z).length = x.1.length + x.2.1.length := by simp only [List.length_append]; omega
    rw [e1, scan_words l z n _ _ h5 (by omega)]
    have e2 : n + 1 - (x :: l).length = n - l.length := by simp
    have e3 : p + (x.1.length + x.2.1.length) + lenW l = p + lenW (x :: l) := by simp only [lenW]; omega
    have e4 : p + (x.1.length + x.2.1.length) = p + x.1.length + x.2.1.length := by omega
    rw [e2, e3]
    simp only [tokW, List.append_assoc, List.singleton_append]
    rw [e4]

theorem scan_end {g : Str} (hg : ∀ b ∈ g, blaB b = true) (n p : Nat) (out : List Token) : scanN (n + 1) p g out = (out ++ [⟨5, [], ⟨0, 0⟩, ((p + g.length : Nat) : Int)⟩], 0, 0) := by
  obtain ⟨t1, t2⟩ := tw_gap g [] hg (.inr rfl)
  rw [List.append_nil] at t1 t2
  simp only [scanN]
  rw [t1, t2, if_pos rfl]
theorem scanS_words (l : List Item3) (g : Str) (hg : ∀ b ∈ g, blaB b = true) (h : okW l g) (hl : lenW l + g.length ≤ 20000) : scanS (layW l g) = (tokW 0 l ++ [⟨5, [], ⟨0, 0⟩, ((lenW l + g.length : Nat) : Int)⟩], 0, 0) := by
  unfold scanS
  have hlen := layW_len l g
  rw [if_neg (by omega)]
  have hcount : l.length ≤ lenW l := by
    clear hl hlen
    induction l with
    | nil => simp [lenW]
    | cons x l ih =>
      obtain ⟨_, ⟨c, u, h2, _⟩, _, h5⟩ := h
      have := ih h5
      have hw : 0 < x.2.1.length := by rw [h2]; simp
      simp only [lenW, List.length_cons]
      omega
  rw [scan_words l g _ 0 [] h (by omega), hlen]
  obtain ⟨m, hm⟩ : ∃ m, lenW l + g.length + 1 - l.length = m + 1 := ⟨lenW l + g.length - l.length, by omega⟩
  rw [hm, scan_end hg]
  simp

def stopR (r : Str) : Prop := r = [] ∨ ∃ b u, r = b :: u ∧ numB b = false ∧ letB b = false
def Word (w : Str) (t : Token) : Prop := (∃ c u, w = c :: u ∧ blaB c = false) ∧ ∀ r, stopR r → tokS (w ++ r) = some (t, r)

theorem tw_stop {p : UInt8 → Bool} : ∀ (w r : Str), (∀ b ∈ w, p b = true) → (r = [] ∨ ∃ b u, r = b :: u ∧ p b = false) → (w ++ r).takeWhile p = w ∧ (w ++ r).dropWhile p = r
  | [], r, _, h => by
    rcases h with rfl | ⟨b, u, rfl, hb⟩
    · exact ⟨rfl, rfl⟩
    · exact ⟨by rw [List.nil_append, List.takeWhile_cons, hb]; rfl, by rw [List.nil_append, List.dropWhile_cons, hb]; rfl⟩
  | b :: w, r, hw, h => by
    have hb := hw b (by simp)
    obtain ⟨h1, h2⟩ := tw_stop w r (fun x hx => hw x (by simp [hx])) h
    exact ⟨by rw [List.cons_append, List.takeWhile_cons, hb, if_pos rfl, h1], by rw [List.cons_append, List.dropWhile_cons, hb, if_pos rfl, h2]⟩
theorem stop_num {r : Str} (h : stopR r) : r = [] ∨ ∃ b u, r = b :: u ∧ numB b = false := h.imp id fun ⟨b, u, e, h1, _⟩ => ⟨b, u, e, h1⟩
theorem word_sign (c : UInt8) (h : sigB c = true) : Word [c] ⟨1, [c], ⟨0, 0⟩, 0⟩ := by
  have all : ∀ n : Fin 256, sigB (UInt8.ofNat n.val) = true → blaB (UInt8.ofNat n.val) = false ∧ ¬ (n.val = 45 ∨ (48 ≤ n.val ∧ n.val ≤ 57)) ∧ ¬ n.val = 34 := by decide +kernel
  obtain ⟨h1, h2, h3⟩ := all ⟨c.toNat, UInt8.toNat_lt c⟩ (by simpa using h)
  refine ⟨⟨c, [], rfl, by simpa using h1⟩, fun r _ => ?_⟩
  show tokS (c :: r) = _
  simp only [tokS]
  rw [if_neg h2, if_neg h3, if_pos h]

theorem parseS_prt {d : Dcm} (hd : Fm d) : parseS (prt d) = (d, true) := by
  have key : ∀ k : Dcm → Bool → Option (Dcm × Bool), decimal_Parse (prt d) k = k d true := fun k => by
    by_cases h0 : d.mant = 0
    · rw [hd.zero h0, prt_zero, parse_zero]
    · have := parse_prt hd h0 [] 0 (.inl ⟨rfl, rfl⟩) (by omega) (by simp) k
      rw [List.append_nil, Int.add_zero, make_same hd h0] at this
      exact this
  have hl : (prt d).length ≤ 4000000000 := by
    by_cases h0 : d.mant = 0
    · rw [hd.zero h0, prt_zero]; simp
    · obtain ⟨I, F, pt, a, b, e1, e2, i0, i1, f0, f1, fl, il, iD, fD⟩ := prt_parts d hd h0
      rw [e1]
      cases hdn : decide (d.mant < 0) <;> cases pt <;> simp <;> omega
  have h1 := parse_any (prt d) hl (fun a b => some (a, b))
  rw [key] at h1
  simp only [Option.some.injEq] at h1
  rw [h1]

theorem prt_chars {d : Dcm} (hd : Fm d) : (∀ b ∈ prt d, numB b = true) ∧ (∃ c u, prt d = c :: u ∧ (c.toNat = 45 ∨ (48 ≤ c.toNat ∧ c.toNat ≤ 57))) ∧ (prt d).length ≤ 60 := by
  have dig : ∀ b : UInt8, isDig b → numB b = true := fun b hb => by
    have all : ∀ n : Fin 256, (48 ≤ n.val ∧ n.val ≤ 57) → numB (UInt8.ofNat n.val) = true := by decide +kernel
    have := all ⟨b.toNat, UInt8.toNat_lt b⟩ hb
    simpa using this
  by_cases h0 : d.mant = 0
  · rw [hd.zero h0, prt_zero]
    exact ⟨by decide, ⟨48, [], rfl, by decide⟩, by simp⟩
  · obtain ⟨I, F, pt, a, b, e1, e2, i0, i1, f0, f1, fl, il, iD, fD⟩ := prt_parts d hd h0
    rw [e1]
    refine ⟨fun x hx => ?_, ?_, ?_⟩
    · rcases List.mem_append.1 hx with hx | hx
      · split at hx
        · simp at hx; subst hx; decide
        · simp at hx
      · rcases List.mem_append.1 hx with hx | hx
        · exact dig x (iD x hx)
        · split at hx
          · rcases List.mem_cons.1 hx with rfl | hx
            · decide
            · exact dig x (fD x hx)
          · simp at hx
    · cases I with
      | nil => exact (i0 rfl).elim
      | cons c I =>
        cases decide (d.mant < 0) with
        | true => exact ⟨45, _, rfl, by decide⟩
        | false => exact ⟨c, _, rfl, .inr (iD c (by simp))⟩
    · cases hdn : decide (d.mant < 0) <;> cases pt <;> simp <;> omega

theorem word_num {d : Dcm} (hd : Fm d) : Word (prt d) ⟨3, prt d, d, 0⟩ := by
  obtain ⟨h1, ⟨c, u, h2, h3⟩, _⟩ := prt_chars hd
  have hp := parseS_prt hd
  have hb : blaB c = false := by
    have all : ∀ n : Fin 256, (n.val = 45 ∨ (48 ≤ n.val ∧ n.val ≤ 57)) → blaB (UInt8.ofNat n.val) = false := by decide +kernel
    have := all ⟨c.toNat, UInt8.toNat_lt c⟩ h3
    simpa using this
  refine ⟨⟨c, u, h2, hb⟩, fun r hr => ?_⟩
  obtain ⟨t1, t2⟩ := tw_stop (prt d) r h1 (stop_num hr)
  have e : prt d ++ r = c :: (u ++ r) := by rw [h2]; rfl
  rw [e] at t1 t2 ⊢
  simp only [tokS]
  rw [if_pos h3, t1, t2, hp]
  rfl
def sg (c : UInt8) : Item3 := ([], [c], ⟨1, [c], ⟨0, 0⟩, 0⟩)
theorem layW_app : ∀ (a b : List Item3) (z : Str), layW (a ++ b) z = layW a (layW b z)
  | [], _, _ => rfl
  | x :: a, b, z => by simp only [List.cons_append, layW, layW_app a b z]

theorem okW_app : ∀ (a b : List Item3) (z : Str), okW (a ++ b) z ↔ okW a (layW b z) ∧ okW b z
  | [], b, z => by simp [okW]
  | x :: a, b, z => by simp only [List.cons_append, okW, okW_app a b z, layW_app, and_assoc]

theorem okW_word {w : Str} {t : Token} (h : Word w t) {z : Str} (hz : stopR z) : okW [([], w, t)] z := ⟨by simp, h.1, h.2 z hz, trivial⟩
theorem sign_any {c : UInt8} (h : sigB c = true) (z : Str) : okW [sg c] z := by
  refine ⟨by simp [sg], (word_sign c h).1, ?_, trivial⟩
  have all : ∀ n : Fin 256, sigB (UInt8.ofNat n.val) = true → ¬ (n.val = 45 ∨ (48 ≤ n.val ∧ n.val ≤ 57)) ∧ ¬ n.val = 34 := by decide +kernel
  obtain ⟨h2, h3⟩ := all ⟨c.toNat, UInt8.toNat_lt c⟩ (by simpa using h)
  show tokS (c :: z) = some (⟨1, [c], ⟨0, 0⟩, 0⟩, z)
  simp only [tokS]
  rw [if_neg h2, if_neg h3, if_pos h]
theorem stop_sign {c : UInt8} (h : sigB c = true) (z : Str) : stopR (c :: z) := by
  have all : ∀ n : Fin 256, sigB (UInt8.ofNat n.val) = true → numB (UInt8.ofNat n.val) = false ∧ letB (UInt8.ofNat n.val) = false := by decide +kernel
  obtain ⟨h2, h3⟩ := all ⟨c.toNat, UInt8.toNat_lt c⟩ (by simpa using h)
  exact .inr ⟨c, z, rfl, by simpa using h2, by simpa using h3⟩

end Go.Proofs.YtmlkkgfenfdndaaDoor

set_option linter.unusedVariables false
set_option maxRecDepth 100000
namespace Go.Proofs.YtmlkkgfenfdndaaDoor
open Go Go.Yard Go.Lib

theorem tw_dw_len (p : UInt8 → Bool) (s : Str) : (s.takeWhile p).length + (s.dropWhile p).length = s.length := by
  have := congrArg List.length (List.takeWhile_append_dropWhile (p := p) (l := s))
  rwa [List.length_append] at this
theorem take_tw (p : UInt8 → Bool) (s : Str) : s.take (s.takeWhile p).length = s.takeWhile p := by
  have := List.take_left (l₁ := s.takeWhile p) (l₂ := s.dropWhile p)
  rwa [List.takeWhile_append_dropWhile] at this
theorem drop_tw (p : UInt8 → Bool) (s : Str) : s.drop (s.takeWhile p).length = s.dropWhile p := by
  have := List.drop_left (l₁ := s.takeWhile p) (l₂ := s.dropWhile p)
  rwa [List.takeWhile_append_dropWhile] at this

theorem while_ok {R : Type} (s cs : Str) (hs : s.length ≤ 4000000000) (h1 : isAsc cs = true) (h2 : cs.length < 4294967281) (k : Str → Option R) : lexer_while s cs k = k (s.takeWhile (cs.contains ·)) := by
  have e : lexer_while s cs k = lexer_while_X s cs k := rfl
  rw [e]
  unfold lexer_while_X
  have hl := tw_dw_len (cs.contains ·) s
  have ht : (trimL s cs).length = (s.dropWhile (cs.contains ·)).length := rfl
  have hw : IntKind.i64.wrap ((s.length : Int) - ((trimL s cs).length : Int)) = ((s.takeWhile (cs.contains ·)).length : Int) := by rw [ht, wrap_id (by omega) (by omega)]; omega
  rw [hw, h1, chk_pos (by rw [dtrue h2]; rfl), chk_pos (by rw [dtrue (by omega), dtrue (by omega)]; rfl), chk_pos (dtrue (by omega)), List.drop_zero, Nat.sub_zero, Int.toNat_natCast, take_tw]

theorem sign_has (c : UInt8) : decide (idxByte sigS (c.toNat : Int) ≥ 0) = sigB c := by
  have hi : idxByte sigS (c.toNat : Int) = Go.Lib.indexByte sigS c := by
    unfold idxByte
    rw [Int.toNat_natCast]
    simp
  have h := idx_neg c sigS
  rw [hi]
  unfold sigB
  cases hc : sigS.contains c with
  | true =>
    apply dtrue
    have : ¬ Go.Lib.indexByte sigS c < 0 := fun g => by rw [h.1 g] at hc; cases hc
    omega
  | false =>
    apply dfalse
    have := h.2 hc
    omega

theorem next_ok {R : Type} (s : Str) (hs : s.length ≤ 4000000000) (h0 : s ≠ []) (k : Token → Int → Option R) :
    lexer_next s k = match tokS s with | some (t, r) => k t ((s.length - r.length : Nat) : Int) | none => k ⟨0, [], ⟨0, 0⟩, 0⟩ 0 := by
  have e : lexer_next s k = lexer_next_X quote_Unquote decimal_Parse lexer_while s k := rfl
  rw [e]
  unfold lexer_next_X
  cases s with
  | nil => exact (h0 rfl).elim
  | cons c u =>
    have hlen : (c :: u : Str).length = u.length + 1 := rfl
    have hg : (c :: u : Str).getD 0 0 = c := rfl
    simp only [List.length_cons] at hs
    rw [hg, chk_pos (dtrue (by rw [hlen]; omega))]
    simp only
    have q45 : ((c.toNat : Int) == 45) = decide (c.toNat = 45) := eqI _ 45
    have q34 : ((c.toNat : Int) == 34) = decide (c.toNat = 34) := eqI _ 34
    have l48 : decide ((c.toNat : Int) ≥ 48) = decide (48 ≤ c.toNat) := by
      by_cases h : 48 ≤ c.toNat
      · rw [dtrue h, dtrue (by omega)]
      · rw [dfalse h, dfalse (by omega)]
    have l57 : decide ((c.toNat : Int) ≤ 57) = decide (c.toNat ≤ 57) := by
      by_cases h : c.toNat ≤ 57
      · rw [dtrue h, dtrue (by omega)]
      · rw [dfalse h, dfalse (by omega)]
    have hsg : decide (idxByte ([123, 125, 91, 93, 44, 58] : Str) (c.toNat : Int) ≥ 0) = sigB c := sign_has c
    have hlt : ∀ p : UInt8 → Bool, ((c :: u).takeWhile p).length ≤ (c :: u).length := fun p => by have := tw_dw_len p (c :: u); omega
    have num : ∀ k : Token → Int → Option R, lexer_while (c :: u) ([48, 49, 50, 51, 52, 53, 54, 55, 56, 57, 43, 45, 46, 101, 69] : Str) (fun y6 => decimal_Parse y6 (fun y7 y8 => bif (!y8) then (k (⟨0, ([] : Str), ⟨0, 0⟩, 0⟩ : Token) 0) else (k (⟨3, y6, ⟨y7.mant, y7.exp⟩, 0⟩ : Token) (y6.length : Int)))) =
        (if (parseS ((c :: u).takeWhile numB)).2 then k ⟨3, (c :: u).takeWhile numB, (parseS ((c :: u).takeWhile numB)).1, 0⟩ (((c :: u).length - ((c :: u).dropWhile numB).length : Nat) : Int) else k ⟨0, [], ⟨0, 0⟩, 0⟩ 0) := fun k => by
      rw [while_ok _ _ (by rw [hlen]; omega) rfl (by decide)]
      have e : (c :: u).takeWhile (fun x => List.contains [48, 49, 50, 51, 52, 53, 54, 55, 56, 57, 43, 45, 46, 101, 69] x) = (c :: u).takeWhile numB := rfl
      have hl := hlt numB
      have hd := tw_dw_len numB (c :: u)
      rw [e, parse_any _ (by omega)]
      have el : (c :: u).length - ((c :: u).dropWhile numB).length = ((c :: u).takeWhile numB).length := by omega
      rw [el]
      cases (parseS ((c :: u).takeWhile numB)).2 <;> rfl
    have txt : ∀ k : Token → Int → Option R, quote_Unquote (c :: u) (fun y15 y16 y17 => bif (!y17) then (k (⟨0, ([] : Str), ⟨0, 0⟩, 0⟩ : Token) 0) else (k (⟨2, y15, ⟨0, 0⟩, 0⟩ : Token) y16)) =
        match uqS (c :: u) with | some (o, r) => k ⟨2, o, ⟨0, 0⟩, 0⟩ (((c :: u).length - r.length : Nat) : Int) | none => k ⟨0, [], ⟨0, 0⟩, 0⟩ 0 := fun k => by
      rw [unquote_ok _ (by rw [hlen]; omega)]
      cases hu : uqS (c :: u) with
      | none => rfl
      | some p =>
        obtain ⟨o, r⟩ := p
        obtain ⟨_, hr, _⟩ := uqS_sfx hu
        simp only [Bool.not_true, cond_false]
        rw [wrap_id (by omega) (by omega)]
        congr 1
        omega
    have nam : ∀ k : Token → Int → Option R, lexer_while (c :: u) ([97, 98, 99, 100, 101, 102, 103, 104, 105, 106, 107, 108, 109, 110, 111, 112, 113, 114, 115, 116, 117, 118, 119, 120, 121, 122] : Str) (fun y21 => bif (y21 == ([116, 114, 117, 101] : Str)) then (k (⟨4, y21, ⟨0, 0⟩, 0⟩ : Token) (y21.length : Int)) else (bif (y21 == ([102, 97, 108, 115, 101] : Str)) then (k (⟨4, y21, ⟨0, 0⟩, 0⟩ : Token) (y21.length : Int)) else (bif (!(y21 == ([110, 117, 108, 108] : Str))) then (k (⟨0, ([] : Str), ⟨0, 0⟩, 0⟩ : Token) 0) else (k (⟨4, y21, ⟨0, 0⟩, 0⟩ : Token) (y21.length : Int))))) =
        (if (c :: u).takeWhile letB = trueS ∨ (c :: u).takeWhile letB = falseS ∨ (c :: u).takeWhile letB = nullS then k ⟨4, (c :: u).takeWhile letB, ⟨0, 0⟩, 0⟩ (((c :: u).length - ((c :: u).dropWhile letB).length : Nat) : Int) else k ⟨0, [], ⟨0, 0⟩, 0⟩ 0) := fun k => by
      rw [while_ok _ _ (by rw [hlen]; omega) rfl (by decide)]
      have e : (c :: u).takeWhile (fun x => List.contains [97, 98, 99, 100, 101, 102, 103, 104, 105, 106, 107, 108, 109, 110, 111, 112, 113, 114, 115, 116, 117, 118, 119, 120, 121, 122] x) = (c :: u).takeWhile letB := rfl
      have hd := tw_dw_len letB (c :: u)
      have el : (c :: u).length - ((c :: u).dropWhile letB).length = ((c :: u).takeWhile letB).length := by omega
      rw [e, el]
      generalize (c :: u).takeWhile letB = w
      have eq : ∀ a : Str, (w == a) = decide (w = a) := fun a => by
        by_cases h : w = a
        · rw [dtrue h]; exact beq_iff_eq.2 h
        · rw [dfalse h]; exact beq_eq_false_iff_ne.2 h
      rw [eq, eq, eq]
      by_cases h1 : w = trueS
      · rw [dtrue (show w = [116, 114, 117, 101] from h1), if_pos (.inl h1)]; rfl
      · by_cases h2 : w = falseS
        · rw [dfalse (show ¬ w = [116, 114, 117, 101] from h1), dtrue (show w = [102, 97, 108, 115, 101] from h2), if_pos (.inr (.inl h2))]; rfl
        · by_cases h3 : w = nullS
          · rw [dfalse (show ¬ w = [116, 114, 117, 101] from h1), dfalse (show ¬ w = [102, 97, 108, 115, 101] from h2), dtrue (show w = [110, 117, 108, 108] from h3), if_pos (.inr (.inr h3))]; rfl
          · rw [dfalse (show ¬ w = [116, 114, 117, 101] from h1), dfalse (show ¬ w = [102, 97, 108, 115, 101] from h2), dfalse (show ¬ w = [110, 117, 108, 108] from h3), if_neg (by rintro (h | h | h); exact h1 h; exact h2 h; exact h3 h)]; rfl
    have sgn1 : ∀ k : Token → Int → Option R, chk (decide ((1 : Int) ≤ ((c :: u : Str).length : Int))) (k (⟨1, (((c :: u : Str).drop 0).take (1 - 0)), ⟨0, 0⟩, 0⟩ : Token) 1) = k ⟨1, [c], ⟨0, 0⟩, 0⟩ (((c :: u).length - u.length : Nat) : Int) := fun k => by
      have e1 : (c :: u).length - u.length = 1 := by rw [hlen]; omega
      rw [chk_pos (dtrue (by rw [hlen]; omega)), e1]
      rfl
    simp only [tokS]
    rw [q45, q34, l48, l57, hsg]
    by_cases h45 : c.toNat = 45
    · rw [dtrue h45, cond_true, if_pos (.inl h45)]
      refine (num k).trans ?_
      split <;> rfl
    · rw [dfalse h45, cond_false]
      have rest : ¬ (48 ≤ c.toNat ∧ c.toNat ≤ 57) → (bif decide (c.toNat = 34) then quote_Unquote (c :: u) (fun y15 y16 y17 => bif (!y17) then (k (⟨0, ([] : Str), ⟨0, 0⟩, 0⟩ : Token) 0) else (k (⟨2, y15, ⟨0, 0⟩, 0⟩ : Token) y16)) else (bif sigB c then chk (decide ((1 : Int) ≤ ((c :: u : Str).length : Int))) (k (⟨1, (((c :: u : Str).drop 0).take (1 - 0)), ⟨0, 0⟩, 0⟩ : Token) 1) else lexer_while (c :: u) ([97, 98, 99, 100, 101, 102, 103, 104, 105, 106, 107, 108, 109, 110, 111, 112, 113, 114, 115, 116, 117, 118, 119, 120, 121, 122] : Str) (fun y21 => bif (y21 == ([116, 114, 117, 101] : Str)) then (k (⟨4, y21, ⟨0, 0⟩, 0⟩ : Token) (y21.length : Int)) else (bif (y21 == ([102, 97, 108, 115, 101] : Str)) then (k (⟨4, y21, ⟨0, 0⟩, 0⟩ : Token) (y21.length : Int)) else (bif (!(y21 == ([110, 117, 108, 108] : Str))) then (k (⟨0, ([] : Str), ⟨0, 0⟩, 0⟩ : Token) 0) else (k (⟨4, y21, ⟨0, 0⟩, 0⟩ : Token) (y21.length : Int))))))) =
          match (if c.toNat = 45 ∨ (48 ≤ c.toNat ∧ c.toNat ≤ 57) then (if (parseS ((c :: u).takeWhile numB)).2 then some (⟨3, (c :: u).takeWhile numB, (parseS ((c :: u).takeWhile numB)).1, 0⟩, (c :: u).dropWhile numB) else none) else if c.toNat = 34 then (match uqS (c :: u) with | some (o, r) => some (⟨2, o, ⟨0, 0⟩, 0⟩, r) | none => none) else if sigB c then some ((⟨1, [c], ⟨0, 0⟩, 0⟩ : Token), u) else if (c :: u).takeWhile letB = trueS ∨ (c :: u).takeWhile letB = falseS ∨ (c :: u).takeWhile letB = nullS then some (⟨4, (c :: u).takeWhile letB, ⟨0, 0⟩, 0⟩, (c :: u).dropWhile letB) else none) with
          | some (t, r) => k t (((c :: u).length - r.length : Nat) : Int) | none => k ⟨0, [], ⟨0, 0⟩, 0⟩ 0 := by
        intro hd
        rw [if_neg (by rintro (h | h); exact h45 h; exact hd h)]
        by_cases h34 : c.toNat = 34
        · rw [dtrue h34, cond_true, if_pos h34, txt]
          cases uqS (c :: u) with
          | none => rfl
          | some p => rfl
        · rw [dfalse h34, cond_false, if_neg h34]
          cases hs' : sigB c with
          | true => rw [cond_true, sgn1, if_pos rfl]
          | false =>
            rw [cond_false, nam, if_neg (show ¬ (false = true) by simp)]
            split <;> rfl
      by_cases h48 : 48 ≤ c.toNat
      · rw [dtrue h48, cond_true]
        by_cases h57 : c.toNat ≤ 57
        · rw [dtrue h57, cond_true, if_pos (.inr ⟨h48, h57⟩)]
          refine (num k).trans ?_
          split <;> rfl
        · rw [dfalse h57, cond_false]
          exact rest (fun h => h57 h.2)
      · rw [dfalse h48, cond_false]
        exact rest (fun h => h48 h.1)

theorem scan_loop {R : Type} (s : Str) (hs : s.length ≤ 20000) (e0 : List Token → Int → Int → Option R) (e1 : Int → Int → Option R) (hz : ∀ a b, e0 [] a b = e1 a b) : ∀ (n p : Nat) (out : List Token), s.length - p < n → p ≤ s.length → out.length ≤ p →
    lexer_Scan_3_0_L n s out (p : Int) e0 e1 = e0 (scanN n p (s.drop p) out).1 (scanN n p (s.drop p) out).2.1 (scanN n p (s.drop p) out).2.2 := by
  intro n
  induction n with
  | zero => intro p out h; omega
  | succ n ih =>
    intro p out h1 h2 h3
    rw [lexer_Scan_3_0_L]
    unfold lexer_Scan_3_0_B
    have hsub : ∀ q : Nat, (s.drop q).take ((s.length : Int).toNat - q) = s.drop q := fun q => List.take_of_length_le (by rw [List.length_drop, Int.toNat_natCast]; exact Nat.le_refl _)
    have hl := tw_dw_len blaB (s.drop p)
    rw [List.length_drop] at hl
    have hdl : (s.drop p).length = s.length - p := List.length_drop
    rw [chk_pos (by rw [dtrue (by omega), dtrue (by omega)]; rfl), chk_pos (by rw [dtrue (by omega), dtrue (by omega)]; rfl), Int.toNat_natCast p, hsub, while_ok _ _ (by omega) rfl (by decide)]
    have eb : (s.drop p).takeWhile (fun x => List.contains [32, 9, 10, 13] x) = (s.drop p).takeWhile blaB := rfl
    rw [eb]
    have hdd : s.drop (p + ((s.drop p).takeWhile blaB).length) = (s.drop p).dropWhile blaB := by rw [← drop_tw blaB (s.drop p), List.drop_drop]
    have hw : IntKind.i64.wrap ((p : Int) + (((s.drop p).takeWhile blaB).length : Int)) = ((p + ((s.drop p).takeWhile blaB).length : Nat) : Int) := by rw [wrap_id (by omega) (by omega)]; omega
    rw [hw]
    simp only [scanN]
    generalize hq : p + ((s.drop p).takeWhile blaB).length = q at *
    by_cases hend : (s.drop p).dropWhile blaB = []
    · have hqe : q = s.length := by rw [hend] at hl; simp at hl; omega
      have e1' : (((q : Nat) : Int) == (s.length : Int)) = true := by rw [hqe]; simp
      rw [e1', cond_true, chk_pos (dtrue (by omega)), if_pos hend]
    · have hpos : 0 < ((s.drop p).dropWhile blaB).length := List.length_pos_iff.2 hend
      have e1' : (((q : Nat) : Int) == (s.length : Int)) = false := by rw [beq_eq_false_iff_ne]; omega
      rw [e1', cond_false, chk_pos (by rw [dtrue (by omega), dtrue (by omega)]; rfl), chk_pos (by rw [dtrue (by omega), dtrue (by omega)]; rfl), Int.toNat_natCast q, hsub, hdd, next_ok _ (by omega) hend, if_neg hend]
      cases ht : tokS ((s.drop p).dropWhile blaB) with
      | none =>
        have e0' : ((0 : Int) == 0) = true := rfl
        simp only
        rw [e0', cond_true, hz]
      | some x =>
        obtain ⟨t, r⟩ := x
        obtain ⟨f1, f2⟩ := tokS_sfx ht
        have hn : ((((s.drop p).dropWhile blaB).length - r.length : Nat) : Int) ≠ 0 := by omega
        simp only
        rw [beq_eq_false_iff_ne.2 hn, cond_false, chk_pos (dtrue (by omega))]
        have hq2 : IntKind.i64.wrap (((q : Nat) : Int) + ((((s.drop p).dropWhile blaB).length - r.length : Nat) : Int)) = ((p + ((s.drop p).length - r.length) : Nat) : Int) := by rw [wrap_id (by omega) (by omega)]; omega
        rw [hq2]
        have hr : s.drop (p + ((s.drop p).length - r.length)) = r := by
          have := sfx_drop (f1.trans (List.dropWhile_suffix blaB))
          rw [← List.drop_drop, ← this]
        have key := ih (p + ((s.drop p).length - r.length)) (out ++ [putT t ((q : Nat) : Int)]) (by omega) (by omega) (by simp; omega)
        rw [hr] at key
        exact key

theorem scan_ok {R : Type} (s : Str) (k : List Token → Int → Int → Option R) : lexer_Scan s k = k (scanS s).1 (scanS s).2.1 (scanS s).2.2 := by
  have e : lexer_Scan s k = lexer_Scan_X lexer_Scan_3_0_L s k := rfl
  rw [e]
  unfold lexer_Scan_X scanS
  by_cases h : 20000 < s.length
  · rw [dtrue (show (s.length : Int) > 20000 by omega), cond_true, if_pos h]
  · rw [dfalse (show ¬ (s.length : Int) > 20000 by omega), cond_false, if_neg h]
    have key := scan_loop (R := R) s (by omega) (fun y8 y9 y10 => k y8 y9 y10) (fun y11 y12 => k [] y11 y12) (fun _ _ => rfl) (List.length s + List.length ([] : List Token) + Int.natAbs 0 + 64) 0 [] (by omega) (by omega) (by simp)
    rw [List.drop_zero, scanN_fuel _ (s.length + 1) 0 s [] (by omega) (by omega)] at key
    exact key
end Go.Proofs.YtmlkkgfenfdndaaDoor

set_option linter.unusedVariables false
set_option maxRecDepth 100000
namespace Go.Proofs.YtmlkkgfenfdndaaDoor
open Go Go.Yard Go.Lib

theorem awake03 {R : Type} (k : Bool → Option R) : law03_awake k = k true := by kernel_rfl

theorem scan_num {d : Dcm} (hd : Fm d) : scanS (prt d) = ([⟨3, prt d, d, 0⟩, ⟨5, [], ⟨0, 0⟩, ((prt d).length : Int)⟩], 0, 0) := by
  obtain ⟨_, _, hl⟩ := prt_chars hd
  have h := scanS_words [([], prt d, ⟨3, prt d, d, 0⟩)] [] (by simp) (okW_word (word_num hd) (.inl rfl)) (by simp [lenW]; omega)
  have e : layW [([], prt d, ⟨3, prt d, d, 0⟩)] [] = prt d := by simp [layW]
  rw [e] at h
  rw [h]
  simp [tokW, lenW, putT]

theorem scan_num2 {d : Dcm} (hd : Fm d) : scanS (([91] ++ prt d) ++ [93]) = ([⟨1, [91], ⟨0, 0⟩, 0⟩, ⟨3, prt d, d, 1⟩, ⟨1, [93], ⟨0, 0⟩, ((1 + (prt d).length : Nat) : Int)⟩, ⟨5, [], ⟨0, 0⟩, ((1 + (prt d).length + 1 : Nat) : Int)⟩], 0, 0) := by
  obtain ⟨_, _, hl⟩ := prt_chars hd
  have ok : okW ([sg 91] ++ ([([], prt d, ⟨3, prt d, d, 0⟩)] ++ [sg 93])) [] := by
    rw [okW_app, okW_app]
    exact ⟨sign_any (by decide) _, okW_word (word_num hd) (stop_sign (by decide) _), sign_any (by decide) _⟩
  have h := scanS_words ([sg 91] ++ ([([], prt d, ⟨3, prt d, d, 0⟩)] ++ [sg 93])) [] (by simp) ok (by simp [lenW, sg]; omega)
  have e : layW ([sg 91] ++ ([([], prt d, ⟨3, prt d, d, 0⟩)] ++ [sg 93])) [] = ([91] ++ prt d) ++ [93] := by simp [layW, sg]
  rw [e] at h
  rw [h]
  simp [tokW, lenW, putT, sg]
  omega

theorem lexerNumbers_true {R : Type} (mant ex : Int) (hm : Small 1048576 (.int .i64 mant)) (he : Small 1048576 (.int .i64 ex)) (k : Bool → Option R) : law03_LexerNumbers mant ex k = k true := by
  have e : law03_LexerNumbers mant ex k = law03_LexerNumbers_X law01_Fit decimal_Print law03_awake lexer_Scan mant ex k := rfl
  rw [e]
  unfold law03_LexerNumbers_X
  rw [awake03]
  obtain ⟨d, hd, hf⟩ := fit_ok (R := R) mant ex (i64_has.1 hm.int_inv) (i64_has.1 he.int_inv)
  obtain ⟨_, _, hl⟩ := prt_chars hd
  rw [hf, print_ok hd, scan_ok, scan_num hd]
  have l1 : (([91] : Str) ++ prt d).length = 1 + (prt d).length := by simp; omega
  rw [chk_pos (dtrue (by omega)), chk_pos (dtrue (by omega)), scan_ok, scan_num2 hd, wrap_id (n := 1 + ((prt d).length : Int)) (by omega) (by omega)]
  have b1 : (d.mant == d.mant && (d.exp == d.exp && true)) = true := by rw [beq_self_eq_true, beq_self_eq_true]; rfl
  have b2 : (prt d == prt d) = true := beq_self_eq_true _
  have b3 : (((prt d).length : Int) == ((prt d).length : Int)) = true := beq_self_eq_true _
  have b4 : (((1 + (prt d).length : Nat) : Int) == 1 + ((prt d).length : Int)) = true := by rw [beq_iff_eq]; omega
  show (bif (d.mant == d.mant && (d.exp == d.exp && true)) then (bif (prt d == prt d) then (bif (((prt d).length : Int) == ((prt d).length : Int)) then (bif (d.mant == d.mant && (d.exp == d.exp && true)) then (k (((1 + (prt d).length : Nat) : Int) == 1 + ((prt d).length : Int))) else k false) else k false) else k false) else k false) = k true
  rw [b1, b2, b3, b4]
  rfl
end Go.Proofs.YtmlkkgfenfdndaaDoor

set_option linter.unusedVariables false
set_option maxRecDepth 100000
namespace Go.Proofs.YtmlkkgfenfdndaaDoor.lexerNumbers
open Go.ChangeShapes Go.WideShapes Go.ChangeAt Go.RowKit Go.Yard Door

theorem run (a0 : Int) (a1 : Int) : specBy law03_LexerNumbers_p law03_LexerNumbers_q (law03_LexerNumbers_rr law03_LexerNumbers) specNo [.int .i64 a0, .int .i64 a1] [] kOk = law03_LexerNumbers a0 a1 (fun q0 => kOk (.bool q0) []) := by kernel_rfl

theorem contract (H : Type) (enc : TypeId × Value → H) (W : World) (base : Nat) (args : Array Value) (ds gs : List (DataW H)) (before : List MemPlace)
    (hval : ∀ (j : Nat) t v, Tryd.f4.params[j]? = some t → args[j]? = some v → Value.okWide Tryd.prog W .any base t v)
    (hW : DataW.Whole enc Tryd.prog Tryd.f4.params.toList Rows.lexerNumbersSpec.vars false W args.toList ds gs before) (hL : laidMetH Tryd.prog Rows.lexerNumbersUptoRow.laid W) (hk : Rows.uptoSmall H (ds ++ gs) = true) :
    Calls Tryd.prog 4 args W fun e W' => ∃ v, e = .returned v ∧ Rows.lexerNumbersSpec.post enc Tryd.prog Tryd.f4 false true false false W args v W' := by
  have hW' := hW
  obtain ⟨p, q, hA0, hV, hpq, hfz, hnd⟩ := hW
  have hA : DataW.TrodAll enc Tryd.prog W 0 (fun _ => true) true [3, 3] args.toList ds p := hA0
  have hval : ∀ (j : Nat) t v, (#[3, 3] : Array Nat)[j]? = some t → args[j]? = some v → Value.okWide Tryd.prog W .any base t v := hval
  obtain ⟨v0, vs0, d0, ds0, p0, q0, hargs, rfl, rfl, h0, r0⟩ := trodAll_cons hA
  obtain ⟨v1, vs1, d1, ds1, p1, q1, rfl, rfl, rfl, h1, r1⟩ := trodAll_cons r0
  obtain ⟨rfl, rfl, rfl⟩ := trodAll_nil r1
  obtain rfl : args = #[v0, v1] := by cases args; simp_all
  have hV' : DataW.TrodVars enc Tryd.prog W (fun _ => true) [] gs q := hV
  obtain ⟨rfl, rfl⟩ := trodVars_none hV'
  have hb : Rows.uptoBulkAll ([d0, d1] ++ []) ≤ 1048576 := of_decide_eq_true hk
  simp only [List.append_nil, Rows.uptoBulkAll] at hb
  obtain ⟨a0, q0, s0⟩ := arg_one (p := .int .i64) (N := 1048576) leaves (by kernel_rfl) (by kernel_rfl) (hval 0 3 v0 rfl rfl) h0 (by omega) (Nat.le_of_ble_eq_true rfl)
  obtain ⟨a1, q1, s1⟩ := arg_one (p := .int .i64) (N := 1048576) leaves (by kernel_rfl) (by kernel_rfl) (hval 1 3 v1 rfl rfl) h1 (by omega) (Nat.le_of_ble_eq_true rfl)
  have ra : RepL W [] cfg0 [.int .i64 a0, .int .i64 a1] #[v0, v1].toList := (.cons q0 (.cons q1 .nil))
  obtain ⟨hsays, hblocks⟩ := lay_met (W := W) hL
  refine (calls_true Tryd.func4 rfl rfl (law03_LexerNumbers_S_ok Unit _ (specNo_ok _)) hsays hblocks ra ((run a0 a1).trans (lexerNumbers_true a0 a1 s0 s1 (fun q0 => kOk (.bool q0) [])))).mono fun e W' ⟨he, L⟩ => ⟨_, he, ?_⟩
  exact post_true (by kernel_rfl) (params_ok (by kernel_rfl)) rfl rfl rfl (show Tryd.prog.underlying 4 = some .bool by kernel_rfl) hW' L

theorem reads (os : Os) {H : Type} (enc : TypeId × Value → H) : (DataW.whole enc Tryd.prog ((laidWorld os).forCall (fun _ _ => 0) ⟨#[], #[.int .i64 0, .int .i64 0], []⟩).memory Tryd.f4.params.toList Rows.lexerNumbersSpec.vars false (#[.int .i64 0, .int .i64 0] : Array Value).toList 8).map (fun x => (x.1, x.2.1)) = some ([.lit (.int .i64 0), .lit (.int .i64 0)], []) := by kernel_rfl
theorem lifted (os : Os) (started : os.Started) (H : Type) (enc : TypeId × Value → H) (F : Stop.Interp) :
    ReturnsInHanded {} Tryd.checked os 4 .any ((Rows.OpenSpec.upto Rows.lexerNumbersSpec).preRow enc Tryd.prog Tryd.f4 Rows.lexerNumbersUptoRow.domain false Rows.lexerNumbersUptoRow.laid) (((Rows.OpenSpec.upto Rows.lexerNumbersSpec).at F).post enc Tryd.prog Tryd.f4 false true false false) := by
  obtain ⟨⟨x1, x2, x3⟩, hx, hx1⟩ := Option.map_eq_some_iff.1 (reads os enc)
  simp only [Prod.mk.injEq] at hx1
  obtain ⟨rfl, rfl⟩ := hx1
  refine returnsInHanded_of_row (C := Tryd.checked) (s := Rows.OpenSpec.upto Rows.lexerNumbersSpec) own started (by kernel_rfl) Tryd.func4
    (witness_row_atRef (enc := enc) (C := Tryd.checked) false (laidWorld os) #[.int .i64 0, .int .i64 0] rfl (by kernel_rfl) (by kernel_rfl) (by kernel_rfl)
      (OpenSpec.preRow_of_cond 8 hx (by kernel_rfl) (fun k hk => by cases hk; kernel_rfl) (by kernel_rfl) (laid_met os _))) ?_
  intro W base args ds gs before hval hW _ hcond _ hL _ _
  exact contract H enc W base args ds gs before hval hW hL (hcond _ rfl)

theorem saidUpto : Rows.LexerNumbersUptoSaid :=
  OpenClaim.holds_of_cond 4 Tryd.f4 rfl rfl rfl rfl rfl rfl rfl ⟨rfl, rfl, rfl, rfl, rfl⟩ rfl rfl rfl rfl rfl (by kernel_rfl) Tryd.func4 (by kernel_rfl)
    (of_decide_eq_true (by kernel_rfl)) (by unfold Func.isWrapper; first | (rw [if_pos (by decide +kernel)]; kernel_rfl) | (rw [if_neg (by decide +kernel)]; exact ⟨rfl, rfl⟩))
    (fun os started H enc _ F => by rw [OpenClaim.pre_eq_preRow]; exact lifted os started H enc F)

theorem plain (f : FuncId) (fn : Func) (hf : Tryd.pinned.checked.prog.funcNamed "humpyard/humpyardlaw03.LexerNumbers" = some f) (hfn : Tryd.pinned.checked.prog.funcs[f]? = some fn) :
    true = Tryd.pinned.checked.prog.looks [] ∧ ∀ (j : Nat) t, fn.params[j]? = some t → Tryd.pinned.checked.prog.wantsStandIn t = false := by
  obtain rfl : f = 4 := Option.some.inj ((show Tryd.prog.funcNamed "humpyard/humpyardlaw03.LexerNumbers" = some 4 by kernel_rfl).symm.trans hf) |>.symm
  obtain rfl : fn = Tryd.f4 := (Option.some.inj (Tryd.func4.symm.trans hfn)).symm
  refine ⟨by kernel_rfl, fun j t ht => ?_⟩
  have hall : Tryd.f4.params.toList.all (fun t => !Tryd.prog.wantsStandIn t) = true := by kernel_rfl
  have hm : t ∈ Tryd.f4.params.toList := Array.mem_toList_iff.2 (Array.mem_of_getElem? ht)
  have := List.all_eq_true.1 hall t hm
  exact (show Tryd.prog.wantsStandIn t = false by simpa using this)
end Go.Proofs.YtmlkkgfenfdndaaDoor.lexerNumbers
namespace Go.Proofs.YtmlkkgfenfdndaaDoor
open Go.RowKit
theorem lexerNumbers_card_upto : Rows.LexerNumbersUptoCardSaid :=
  Claim7.holds_tied_plain_at .later [] _ _ _ _ lexerNumbers.saidUpto (fun _ h => by cases h) (by kernel_rfl) (fun _ h => by cases h) lexerNumbersUpto_row_tie rfl ⟨rfl, rfl⟩ (by kernel_rfl) rfl lexerNumbers.plain (by kernel_rfl)
end Go.Proofs.YtmlkkgfenfdndaaDoor

