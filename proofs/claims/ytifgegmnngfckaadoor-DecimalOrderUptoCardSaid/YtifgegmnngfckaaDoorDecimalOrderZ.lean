/-
  DecimalOrder: for every input whose bulk is at most 1048576 the law returns true, and each argument reads behind the call as it read before; part 8 of 8 of the proof: an interpreter of the model's code over typed data, proved sound; the functions that the law reaches, printed as Lean functions and tied; the plain law. Own texts laid one behind the other.
-/
import Derived.KernelRfl
import Derived.Lib.ValidLaws
import Derived.Lib.MapLaws
import Derived.Lib.TrimUEq
import Derived.Lib.RuneBytes
import Derived.Lib.ItoaMem
import Derived.Test.YtifgegmnngfckaaDoorDecimalOrderB7
set_option linter.unusedSimpArgs false
set_option linter.unnecessarySimpa false
set_option linter.unusedVariables false
set_option linter.unusedSectionVars false
/-
  Functions of the program as pure Lean functions, and the ties; printed by wip/tools/emit.py.
-/
set_option maxRecDepth 100000
set_option linter.unusedVariables false
namespace Go.Proofs.YtifgegmnngfckaaDoor
open Go Go.Yard

/-! ### humpyard/humpyardlaw02.QuoteWhole -/
abbrev law02_QuoteWhole_ty (R : Type) : Type := Str → (List Int) → (Bool → Option R) → Option R
abbrev law02_QuoteWhole_p : List Pat := [.leaf (.str), .leaf (.sl (.int .i64))]
abbrev law02_QuoteWhole_q : List HPat := []
noncomputable def law02_QuoteWhole_rr {R : Type} (fn : law02_QuoteWhole_ty R) : Pat.dens law02_QuoteWhole_p → HPat.dens law02_QuoteWhole_q → (V → Heap → Option R) → Option R := fun x y k => fn x.1 x.2.1 (fun q0 => k (.bool q0) [])
noncomputable def law02_QuoteWhole_E (R : Type) (law02_awake : law02_awake_ty R) (law02_Text : law02_Text_ty R) (quote_Whole : quote_Whole_ty R) : Env R := fun i => match i with
  | 17 => some (true, (specBy law02_awake_p law02_awake_q (law02_awake_rr law02_awake) specNo))
  | 18 => some (true, (specBy law02_Text_p law02_Text_q (law02_Text_rr law02_Text) specNo))
  | 24 => some (true, (specBy quote_Whole_p quote_Whole_q (quote_Whole_rr quote_Whole) specNo))
  | _ => none
theorem law02_QuoteWhole_EOk (R : Type) : EOk Tryd.prog (law02_QuoteWhole_E R law02_awake law02_Text quote_Whole) := by
  intro i b sp h
  unfold law02_QuoteWhole_E at h
  split at h
  · cases h; exact ⟨(law02_awake_S_ok R _ (specNo_ok _)), fun h => nomatch h⟩
  · cases h; exact ⟨(law02_Text_S_ok R _ (specNo_ok _)), fun h => nomatch h⟩
  · cases h; exact ⟨(quote_Whole_S_ok R _ (specNo_ok _)), fun h => nomatch h⟩
  · cases h

noncomputable def law02_QuoteWhole_T (R : Type) : Nat → Option (Hint × LSpec R) := fun i => match i with
  | _ => none

noncomputable def law02_QuoteWhole_X {R : Type} (law02_awake : law02_awake_ty R) (law02_Text : law02_Text_ty R) (quote_Whole : quote_Whole_ty R) (x1 : Str) (x2 : List Int) (k0 : Bool → Option R) : Option R :=
  law02_awake (fun y3 => law02_Text x2 (fun y4 => bif y3 then (quote_Whole y4 (fun y5 => bif y5 then (chk (decide (y4.length + x1.length ≤ 9223372036854775807)) (quote_Whole (y4 ++ x1) (fun y6 => quote_Whole x1 (fun y7 => bif (y6 == y7) then (chk (decide (x1.length + 1 ≤ 9223372036854775807)) (chk (decide ((x1 ++ ([97] : Str)).length + y4.length ≤ 9223372036854775807)) (quote_Whole ((x1 ++ ([97] : Str)) ++ y4) (fun y8 => quote_Whole x1 (fun y9 => k0 (y8 == y9)))))) else (k0 false))))) else (k0 false))) else (k0 false)))
noncomputable def law02_QuoteWhole {R : Type} : law02_QuoteWhole_ty R := fun x1 x2 k0 => law02_QuoteWhole_X law02_awake law02_Text quote_Whole x1 x2 k0
theorem law02_QuoteWhole_ok {R : Type} (law02_awake : law02_awake_ty R) (law02_Text : law02_Text_ty R) (quote_Whole : quote_Whole_ty R) (x1 : Str) (x2 : List Int) (k : V → Heap → Option R) : funK tt (law02_QuoteWhole_E R law02_awake law02_Text quote_Whole) (law02_QuoteWhole_T R) false Tryd.f9 (codeOf Tryd.f9) [.str x1, .sl (.int .i64) x2 .no] [] k =
    law02_QuoteWhole_X law02_awake law02_Text quote_Whole x1 x2 (fun q0 => k (.bool q0) []) := by kernel_rfl
theorem law02_QuoteWhole_loops (R : Type) : ∀ a ∈ loopsOf (codeOf Tryd.f9), LoopOk tt (law02_QuoteWhole_E R law02_awake law02_Text quote_Whole) (law02_QuoteWhole_T R) 0 a := by
  refine loops_ok 0 (by kernel_rfl) fun i hi => ?_
  omega
theorem law02_QuoteWhole_S_ok (R : Type) (other : Yard.Spec R) (ho : Yard.Spec.Ok Tryd.prog 9 other) : Yard.Spec.Ok Tryd.prog 9 (specBy law02_QuoteWhole_p law02_QuoteWhole_q (law02_QuoteWhole_rr law02_QuoteWhole) other) :=
  specBy_ok ho (funK_sound TT mixed (law02_QuoteWhole_EOk R) (keep := false) rfl rfl rfl rfl 0 (law02_QuoteWhole_loops R)) fun (x : Pat.dens law02_QuoteWhole_p) (y : HPat.dens law02_QuoteWhole_q) k => law02_QuoteWhole_ok law02_awake law02_Text quote_Whole x.1 x.2.1 k

/-! ### (*humpyard/decimal.reader).sign -/
abbrev decimal_reader_sign_e74a_ty (R : Type) : Type := Str → Str → (Int → Str → Option R) → Option R
abbrev decimal_reader_sign_e74a_p : List Pat := [.leaf (.ptr 0 0), .leaf (.str)]
abbrev decimal_reader_sign_e74a_q : List HPat := [.cells [.str]]
noncomputable def decimal_reader_sign_e74a_rr {R : Type} (fn : decimal_reader_sign_e74a_ty R) : Pat.dens decimal_reader_sign_e74a_p → HPat.dens decimal_reader_sign_e74a_q → (V → Heap → Option R) → Option R := fun x y k => fn x.2.1 y.1.1 (fun q0 q1 => k (.int .u8 q0) [.cells [.str q1]])
noncomputable def decimal_reader_sign_e74a_E (R : Type) : Env R := fun i => match i with
  | 85 => some (true, (idx_S R))
  | _ => none
theorem decimal_reader_sign_e74a_EOk (R : Type) : EOk Tryd.prog (decimal_reader_sign_e74a_E R) := by
  intro i b sp h
  unfold decimal_reader_sign_e74a_E at h
  split at h
  · cases h; exact ⟨(idx_ok), fun h => nomatch h⟩
  · cases h

noncomputable def decimal_reader_sign_e74a_T (R : Type) : Nat → Option (Hint × LSpec R) := fun i => match i with
  | _ => none

noncomputable def decimal_reader_sign_e74a_X {R : Type} (x1 : Str) (x2 : Str) (k0 : Int → Str → Option R) : Option R :=
  bif (x2 == ([] : Str)) then (k0 0 x2) else (chk (decide ((0 : Int) < x2.length)) (bif (decide ((idxByte x1 ((x2.getD 0 0).toNat : Int)) < (0 : Int))) then (k0 0 x2) else (chk (decide ((0 : Int) < x2.length)) (chk (decide ((0 : Int) ≤ (x2.length : Int)) && decide ((x2.length : Int) ≤ x2.length)) (chk (decide ((1 : Int) ≤ (x2.length : Int))) (k0 ((x2.getD 0 0).toNat : Int) ((x2.drop 1).take ((x2.length : Int).toNat - 1))))))))
noncomputable def decimal_reader_sign_e74a {R : Type} : decimal_reader_sign_e74a_ty R := fun x1 x2 k0 => decimal_reader_sign_e74a_X x1 x2 k0
theorem decimal_reader_sign_e74a_ok {R : Type} (x1 : Str) (x2 : Str) (k : V → Heap → Option R) : funK tt (decimal_reader_sign_e74a_E R) (decimal_reader_sign_e74a_T R) false Tryd.f58 (codeOf Tryd.f58) [.ptr 0 0, .str x1] [.cells [.str x2]] k =
    decimal_reader_sign_e74a_X x1 x2 (fun q0 q1 => k (.int .u8 q0) [.cells [.str q1]]) := by kernel_rfl
theorem decimal_reader_sign_e74a_loops (R : Type) : ∀ a ∈ loopsOf (codeOf Tryd.f58), LoopOk tt (decimal_reader_sign_e74a_E R) (decimal_reader_sign_e74a_T R) 1 a := by
  refine loops_ok 0 (by kernel_rfl) fun i hi => ?_
  omega
theorem decimal_reader_sign_e74a_S_ok (R : Type) (other : Yard.Spec R) (ho : Yard.Spec.Ok Tryd.prog 58 other) : Yard.Spec.Ok Tryd.prog 58 (specBy decimal_reader_sign_e74a_p decimal_reader_sign_e74a_q (decimal_reader_sign_e74a_rr decimal_reader_sign_e74a) other) :=
  specBy_ok ho (funK_sound TT mixed (decimal_reader_sign_e74a_EOk R) (keep := false) rfl rfl rfl rfl 1 (decimal_reader_sign_e74a_loops R)) fun (x : Pat.dens decimal_reader_sign_e74a_p) (y : HPat.dens decimal_reader_sign_e74a_q) k => decimal_reader_sign_e74a_ok x.2.1 y.1.1 k

/-! ### (*humpyard/decimal.reader).digits -/
abbrev decimal_reader_digits_abbd_ty (R : Type) : Type := Str → (Str → Str → Option R) → Option R
abbrev decimal_reader_digits_abbd_p : List Pat := [.leaf (.ptr 0 0)]
abbrev decimal_reader_digits_abbd_q : List HPat := [.cells [.str]]
noncomputable def decimal_reader_digits_abbd_rr {R : Type} (fn : decimal_reader_digits_abbd_ty R) : Pat.dens decimal_reader_digits_abbd_p → HPat.dens decimal_reader_digits_abbd_q → (V → Heap → Option R) → Option R := fun x y k => fn y.1.1 (fun q0 q1 => k (.str q0) [.cells [.str q1]])
noncomputable def decimal_reader_digits_abbd_E (R : Type) : Env R := fun i => match i with
  | 61 => some (true, (trimL_S R))
  | _ => none
theorem decimal_reader_digits_abbd_EOk (R : Type) : EOk Tryd.prog (decimal_reader_digits_abbd_E R) := by
  intro i b sp h
  unfold decimal_reader_digits_abbd_E at h
  split at h
  · cases h; exact ⟨(trimL_ok), fun h => nomatch h⟩
  · cases h

noncomputable def decimal_reader_digits_abbd_T (R : Type) : Nat → Option (Hint × LSpec R) := fun i => match i with
  | _ => none

noncomputable def decimal_reader_digits_abbd_X {R : Type} (x1 : Str) (k0 : Str → Str → Option R) : Option R :=
  chk (isAsc ([48, 49, 50, 51, 52, 53, 54, 55, 56, 57] : Str) && decide (([48, 49, 50, 51, 52, 53, 54, 55, 56, 57] : Str).length < 4294967281)) (chk (decide ((0 : Int) ≤ (IntKind.i64.wrap ((x1.length : Int) - ((trimL x1 ([48, 49, 50, 51, 52, 53, 54, 55, 56, 57] : Str)).length : Int)))) && decide ((IntKind.i64.wrap ((x1.length : Int) - ((trimL x1 ([48, 49, 50, 51, 52, 53, 54, 55, 56, 57] : Str)).length : Int))) ≤ x1.length)) (chk (decide ((0 : Int) ≤ (IntKind.i64.wrap ((x1.length : Int) - ((trimL x1 ([48, 49, 50, 51, 52, 53, 54, 55, 56, 57] : Str)).length : Int))))) (k0 ((x1.drop 0).take ((IntKind.i64.wrap ((x1.length : Int) - ((trimL x1 ([48, 49, 50, 51, 52, 53, 54, 55, 56, 57] : Str)).length : Int))).toNat - 0)) (trimL x1 ([48, 49, 50, 51, 52, 53, 54, 55, 56, 57] : Str)))))
noncomputable def decimal_reader_digits_abbd {R : Type} : decimal_reader_digits_abbd_ty R := fun x1 k0 => decimal_reader_digits_abbd_X x1 k0
theorem decimal_reader_digits_abbd_ok {R : Type} (x1 : Str) (k : V → Heap → Option R) : funK tt (decimal_reader_digits_abbd_E R) (decimal_reader_digits_abbd_T R) false Tryd.f59 (codeOf Tryd.f59) [.ptr 0 0] [.cells [.str x1]] k =
    decimal_reader_digits_abbd_X x1 (fun q0 q1 => k (.str q0) [.cells [.str q1]]) := by kernel_rfl
theorem decimal_reader_digits_abbd_loops (R : Type) : ∀ a ∈ loopsOf (codeOf Tryd.f59), LoopOk tt (decimal_reader_digits_abbd_E R) (decimal_reader_digits_abbd_T R) 1 a := by
  refine loops_ok 0 (by kernel_rfl) fun i hi => ?_
  omega
theorem decimal_reader_digits_abbd_S_ok (R : Type) (other : Yard.Spec R) (ho : Yard.Spec.Ok Tryd.prog 59 other) : Yard.Spec.Ok Tryd.prog 59 (specBy decimal_reader_digits_abbd_p decimal_reader_digits_abbd_q (decimal_reader_digits_abbd_rr decimal_reader_digits_abbd) other) :=
  specBy_ok ho (funK_sound TT mixed (decimal_reader_digits_abbd_EOk R) (keep := false) rfl rfl rfl rfl 1 (decimal_reader_digits_abbd_loops R)) fun (x : Pat.dens decimal_reader_digits_abbd_p) (y : HPat.dens decimal_reader_digits_abbd_q) k => decimal_reader_digits_abbd_ok y.1.1 k

/-! ### (*humpyard/decimal.reader).exponent -/
abbrev decimal_reader_exponent_abbd_ty (R : Type) : Type := Str → (Int → Bool → Str → Option R) → Option R
abbrev decimal_reader_exponent_abbd_p : List Pat := [.leaf (.ptr 0 0)]
abbrev decimal_reader_exponent_abbd_q : List HPat := [.cells [.str]]
noncomputable def decimal_reader_exponent_abbd_rr {R : Type} (fn : decimal_reader_exponent_abbd_ty R) : Pat.dens decimal_reader_exponent_abbd_p → HPat.dens decimal_reader_exponent_abbd_q → (V → Heap → Option R) → Option R := fun x y k => fn y.1.1 (fun q0 q1 q2 => k (.tuple [.int .i64 q0, .bool q1]) [.cells [.str q2]])
noncomputable def decimal_reader_exponent_abbd_E (R : Type) (decimal_reader_sign_e74a : decimal_reader_sign_e74a_ty R) (decimal_reader_digits_abbd : decimal_reader_digits_abbd_ty R) : Env R := fun i => match i with
  | 58 => some (false, (specBy decimal_reader_sign_e74a_p decimal_reader_sign_e74a_q (decimal_reader_sign_e74a_rr decimal_reader_sign_e74a) specNo))
  | 59 => some (false, (specBy decimal_reader_digits_abbd_p decimal_reader_digits_abbd_q (decimal_reader_digits_abbd_rr decimal_reader_digits_abbd) specNo))
  | 63 => some (true, (atoi_S R))
  | _ => none
theorem decimal_reader_exponent_abbd_EOk (R : Type) : EOk Tryd.prog (decimal_reader_exponent_abbd_E R decimal_reader_sign_e74a decimal_reader_digits_abbd) := by
  intro i b sp h
  unfold decimal_reader_exponent_abbd_E at h
  split at h
  · cases h; exact ⟨(decimal_reader_sign_e74a_S_ok R _ (specNo_ok _)), fun _ h => nomatch h⟩
  · cases h; exact ⟨(decimal_reader_digits_abbd_S_ok R _ (specNo_ok _)), fun _ h => nomatch h⟩
  · cases h; exact ⟨(atoi_ok), fun h => nomatch h⟩
  · cases h

noncomputable def decimal_reader_exponent_abbd_T (R : Type) : Nat → Option (Hint × LSpec R) := fun i => match i with
  | _ => none

noncomputable def decimal_reader_exponent_abbd_X {R : Type} (decimal_reader_sign_e74a : decimal_reader_sign_e74a_ty R) (decimal_reader_digits_abbd : decimal_reader_digits_abbd_ty R) (x1 : Str) (k0 : Int → Bool → Str → Option R) : Option R :=
  decimal_reader_sign_e74a ([43, 45] : Str) x1 (fun y2 y3 => decimal_reader_digits_abbd y3 (fun y4 y5 => chk (decide (y4.length ≤ 281474976710656)) (bif atoiOk y4 then (bif (decide ((atoiVal y4) > (1000000 : Int))) then (bif (y2 == 45) then (k0 (-1000000) (!(y4 == ([] : Str))) y5) else (k0 1000000 (!(y4 == ([] : Str))) y5)) else (bif (y2 == 45) then (k0 (IntKind.i64.wrap (0 - (atoiVal y4))) (!(y4 == ([] : Str))) y5) else (k0 (atoiVal y4) (!(y4 == ([] : Str))) y5))) else (bif (!(y4 == ([] : Str))) then (bif (y2 == 45) then (k0 (-1000000) (!(y4 == ([] : Str))) y5) else (k0 1000000 (!(y4 == ([] : Str))) y5)) else (bif (decide ((atoiVal y4) > (1000000 : Int))) then (bif (y2 == 45) then (k0 (-1000000) (!(y4 == ([] : Str))) y5) else (k0 1000000 (!(y4 == ([] : Str))) y5)) else (bif (y2 == 45) then (k0 (IntKind.i64.wrap (0 - (atoiVal y4))) (!(y4 == ([] : Str))) y5) else (k0 (atoiVal y4) (!(y4 == ([] : Str))) y5)))))))
noncomputable def decimal_reader_exponent_abbd {R : Type} : decimal_reader_exponent_abbd_ty R := fun x1 k0 => decimal_reader_exponent_abbd_X decimal_reader_sign_e74a decimal_reader_digits_abbd x1 k0
theorem decimal_reader_exponent_abbd_ok {R : Type} (decimal_reader_sign_e74a : decimal_reader_sign_e74a_ty R) (decimal_reader_digits_abbd : decimal_reader_digits_abbd_ty R) (x1 : Str) (k : V → Heap → Option R) : funK tt (decimal_reader_exponent_abbd_E R decimal_reader_sign_e74a decimal_reader_digits_abbd) (decimal_reader_exponent_abbd_T R) false Tryd.f60 (codeOf Tryd.f60) [.ptr 0 0] [.cells [.str x1]] k =
    decimal_reader_exponent_abbd_X decimal_reader_sign_e74a decimal_reader_digits_abbd x1 (fun q0 q1 q2 => k (.tuple [.int .i64 q0, .bool q1]) [.cells [.str q2]]) := by kernel_rfl
theorem decimal_reader_exponent_abbd_loops (R : Type) : ∀ a ∈ loopsOf (codeOf Tryd.f60), LoopOk tt (decimal_reader_exponent_abbd_E R decimal_reader_sign_e74a decimal_reader_digits_abbd) (decimal_reader_exponent_abbd_T R) 1 a := by
  refine loops_ok 0 (by kernel_rfl) fun i hi => ?_
  omega
theorem decimal_reader_exponent_abbd_S_ok (R : Type) (other : Yard.Spec R) (ho : Yard.Spec.Ok Tryd.prog 60 other) : Yard.Spec.Ok Tryd.prog 60 (specBy decimal_reader_exponent_abbd_p decimal_reader_exponent_abbd_q (decimal_reader_exponent_abbd_rr decimal_reader_exponent_abbd) other) :=
  specBy_ok ho (funK_sound TT mixed (decimal_reader_exponent_abbd_EOk R) (keep := false) rfl rfl rfl rfl 1 (decimal_reader_exponent_abbd_loops R)) fun (x : Pat.dens decimal_reader_exponent_abbd_p) (y : HPat.dens decimal_reader_exponent_abbd_q) k => decimal_reader_exponent_abbd_ok decimal_reader_sign_e74a decimal_reader_digits_abbd y.1.1 k

/-! ### humpyard/decimal.within[int] -/
abbrev decimal_within_int_ty (R : Type) : Type := Int → Int → Int → (Bool → Option R) → Option R
abbrev decimal_within_int_p : List Pat := [.leaf (.int .i64), .leaf (.int .i64), .leaf (.int .i64)]
abbrev decimal_within_int_q : List HPat := []
noncomputable def decimal_within_int_rr {R : Type} (fn : decimal_within_int_ty R) : Pat.dens decimal_within_int_p → HPat.dens decimal_within_int_q → (V → Heap → Option R) → Option R := fun x y k => fn x.1 x.2.1 x.2.2.1 (fun q0 => k (.bool q0) [])
noncomputable def decimal_within_int_E (R : Type) : Env R := fun i => match i with
  | _ => none
theorem decimal_within_int_EOk (R : Type) : EOk Tryd.prog (decimal_within_int_E R) := by
  intro i b sp h
  unfold decimal_within_int_E at h
  split at h
  · cases h

noncomputable def decimal_within_int_T (R : Type) : Nat → Option (Hint × LSpec R) := fun i => match i with
  | _ => none

noncomputable def decimal_within_int_X {R : Type} (x1 : Int) (x2 : Int) (x3 : Int) (k0 : Bool → Option R) : Option R :=
  bif (decide (x1 ≤ x2)) then (k0 (decide (x2 ≤ x3))) else (k0 false)
noncomputable def decimal_within_int {R : Type} : decimal_within_int_ty R := fun x1 x2 x3 k0 => decimal_within_int_X x1 x2 x3 k0
theorem decimal_within_int_ok {R : Type} (x1 : Int) (x2 : Int) (x3 : Int) (k : V → Heap → Option R) : funK tt (decimal_within_int_E R) (decimal_within_int_T R) false Tryd.f64 (codeOf Tryd.f64) [.int .i64 x1, .int .i64 x2, .int .i64 x3] [] k =
    decimal_within_int_X x1 x2 x3 (fun q0 => k (.bool q0) []) := by kernel_rfl
theorem decimal_within_int_loops (R : Type) : ∀ a ∈ loopsOf (codeOf Tryd.f64), LoopOk tt (decimal_within_int_E R) (decimal_within_int_T R) 0 a := by
  refine loops_ok 0 (by kernel_rfl) fun i hi => ?_
  omega
theorem decimal_within_int_S_ok (R : Type) (other : Yard.Spec R) (ho : Yard.Spec.Ok Tryd.prog 64 other) : Yard.Spec.Ok Tryd.prog 64 (specBy decimal_within_int_p decimal_within_int_q (decimal_within_int_rr decimal_within_int) other) :=
  specBy_ok ho (funK_sound TT mixed (decimal_within_int_EOk R) (keep := false) rfl rfl rfl rfl 0 (decimal_within_int_loops R)) fun (x : Pat.dens decimal_within_int_p) (y : HPat.dens decimal_within_int_q) k => decimal_within_int_ok x.1 x.2.1 x.2.2.1 k

/-! ### humpyard/decimal.Make -/
abbrev decimal_Make_ty (R : Type) : Type := Int → Int → (Dcm → Bool → Option R) → Option R
abbrev decimal_Make_p : List Pat := [.leaf (.int .i64), .leaf (.int .i64)]
abbrev decimal_Make_q : List HPat := []
noncomputable def decimal_Make_rr {R : Type} (fn : decimal_Make_ty R) : Pat.dens decimal_Make_p → HPat.dens decimal_Make_q → (V → Heap → Option R) → Option R := fun x y k => fn x.1 x.2.1 (fun q0 q1 => k (.tuple [.agg [.int .i64 q0.mant, .int .i64 q0.exp], .bool q1]) [])
abbrev decimal_Make_4_0_ty (R : Type) : Type := Nat → Int → Int → Dcm → (Int → Int → Dcm → Option R) → Option R
noncomputable def decimal_Make_E (R : Type) (decimal_within_int : decimal_within_int_ty R) : Env R := fun i => match i with
  | 64 => some (true, (specBy decimal_within_int_p decimal_within_int_q (decimal_within_int_rr decimal_within_int) specNo))
  | _ => none
theorem decimal_Make_EOk (R : Type) : EOk Tryd.prog (decimal_Make_E R decimal_within_int) := by
  intro i b sp h
  unfold decimal_Make_E at h
  split at h
  · cases h; exact ⟨(decimal_within_int_S_ok R _ (specNo_ok _)), fun h => nomatch h⟩
  · cases h

noncomputable def decimal_Make_4_0_B {R : Type} (rec' : Int → Int → Dcm → Option R) (x3 : Int) (x4 : Int) (x5 : Dcm) (e0 : Int → Int → Dcm → Option R) : Option R :=
  bif ((Int.tmod x3 10) == 0) then (rec' (IntKind.i64.wrap (Int.tdiv x3 10)) (IntKind.i64.wrap (x4 + 1)) x5) else (e0 x3 x4 x5)
noncomputable def decimal_Make_4_0_L {R : Type} : decimal_Make_4_0_ty R
  | 0, _, _, _, _ => none
  | n + 1, x0', x1', x2', e0 => decimal_Make_4_0_B (fun x0' x1' x2' => decimal_Make_4_0_L n x0' x1' x2' e0) x0' x1' x2' e0
noncomputable def decimal_Make_4_0_h : Hint := { live := [0, 1, 4], own := [], rows := [], cells := [], drop := [], out := [0, 1, 4, 5] }
abbrev decimal_Make_4_0_D : Type := Int × Int × Dcm
noncomputable def decimal_Make_4_0_enc : decimal_Make_4_0_D → St := fun d => ⟨[.int .i64 d.1, .int .i64 d.2.1, .undef, .undef, .ptr 0 0, .undef, .undef, .undef, .undef, .undef, .undef, .undef, .undef, .undef, .undef, .undef, .undef, .undef, .undef, .undef, .undef, .undef, .undef, .undef, .undef, .undef, .undef, .undef, .undef, .undef], [.cells [.int .i64 d.2.2.mant, .int .i64 d.2.2.exp]]⟩
noncomputable def decimal_Make_4_0_x0 {R : Type} (K : Ex → St → Option R) (q0 : Int) (q1 : Int) (q2 : Dcm) : Option R := K (.exit 0) ⟨[.int .i64 q0, .int .i64 q1, .undef, .undef, .ptr 0 0, .undef, .undef, .undef, .undef, .undef, .undef, .undef, .undef, .undef, .undef, .undef, .undef, .undef, .undef, .undef, .undef, .undef, .undef, .undef, .undef, .undef, .undef, .undef, .undef, .undef], [.cells [.int .i64 q2.mant, .int .i64 q2.exp]]⟩
noncomputable def decimal_Make_4_0_s {R : Type} (K : Ex → St → Option R) (rc : decimal_Make_4_0_D → Option R) (d : decimal_Make_4_0_D) : Option R := decimal_Make_4_0_B (fun z0 z1 z2 => rc (z0, z1, z2)) d.1 d.2.1 d.2.2 (decimal_Make_4_0_x0 K)
noncomputable def decimal_Make_4_0_A {R : Type} (K : Ex → St → Option R) (n : Nat) (d : decimal_Make_4_0_D) : Option R := decimal_Make_4_0_L n d.1 d.2.1 d.2.2 (decimal_Make_4_0_x0 K)
abbrev decimal_Make_4_0_p : List Pat := [.leaf (.int .i64), .leaf (.int .i64), .leaf (.undef), .leaf (.undef), .leaf (.ptr 0 0), .leaf (.undef), .leaf (.undef), .leaf (.undef), .leaf (.undef), .leaf (.undef), .leaf (.undef), .leaf (.undef), .leaf (.undef), .leaf (.undef), .leaf (.undef), .leaf (.undef), .leaf (.undef), .leaf (.undef), .leaf (.undef), .leaf (.undef), .leaf (.undef), .leaf (.undef), .leaf (.undef), .leaf (.undef), .leaf (.undef), .leaf (.undef), .leaf (.undef), .leaf (.undef), .leaf (.undef), .leaf (.undef)]
abbrev decimal_Make_4_0_q : List HPat := [.cells [.int .i64, .int .i64]]
noncomputable def decimal_Make_4_0_f (x : Pat.dens decimal_Make_4_0_p) (y : HPat.dens decimal_Make_4_0_q) : Nat := (Int.natAbs x.1 + Int.natAbs x.2.1 + Dcm.fu (⟨y.1.1, y.1.2.1⟩ : Dcm) + 64)
noncomputable def decimal_Make_4_0_d (x : Pat.dens decimal_Make_4_0_p) (y : HPat.dens decimal_Make_4_0_q) : decimal_Make_4_0_D := (x.1, x.2.1, (⟨y.1.1, y.1.2.1⟩ : Dcm))
noncomputable def decimal_Make_4_0_rr {R : Type} (L : decimal_Make_4_0_ty R) : Pat.dens decimal_Make_4_0_p → HPat.dens decimal_Make_4_0_q → (Ex → St → Option R) → Option R := fun x y K => L (decimal_Make_4_0_f x y) x.1 x.2.1 (⟨y.1.1, y.1.2.1⟩ : Dcm) (decimal_Make_4_0_x0 K)
noncomputable def decimal_Make_T (R : Type) (decimal_Make_4_0_L : decimal_Make_4_0_ty R) : Nat → Option (Hint × LSpec R) := fun i => match i with
  | 4 => some (decimal_Make_4_0_h, (loopBy decimal_Make_4_0_p decimal_Make_4_0_q (decimal_Make_4_0_rr decimal_Make_4_0_L) loopNo))
  | _ => none

theorem decimal_Make_4_0_B_ok {R : Type} (decimal_within_int : decimal_within_int_ty R) (decimal_Make_4_0_L : decimal_Make_4_0_ty R) (K : Ex → St → Option R) (rc : St → Option R) (d : decimal_Make_4_0_D) : roundOf tt (decimal_Make_E R decimal_within_int) (decimal_Make_T R decimal_Make_4_0_L) 0 ((loopsOf (codeOf Tryd.f32)).getD 0 .skip) decimal_Make_4_0_h (decimal_Make_4_0_enc d) rc K = decimal_Make_4_0_s K (fun d => rc (decimal_Make_4_0_enc d)) d := by kernel_rfl
theorem decimal_Make_4_0_A_succ {R : Type} (K : Ex → St → Option R) (n : Nat) (d : decimal_Make_4_0_D) : decimal_Make_4_0_A K (n + 1) d = decimal_Make_4_0_s K (decimal_Make_4_0_A K n) d := by kernel_rfl
theorem decimal_Make_4_0_A_zero {R : Type} (K : Ex → St → Option R) (d : decimal_Make_4_0_D) : decimal_Make_4_0_A K 0 d = none := by kernel_rfl
theorem decimal_Make_4_0_e_ok (x : Pat.dens decimal_Make_4_0_p) (y : HPat.dens decimal_Make_4_0_q) : (⟨Pat.encL decimal_Make_4_0_p x, HPat.encL decimal_Make_4_0_q y⟩ : St) = decimal_Make_4_0_enc (decimal_Make_4_0_d x y) := by kernel_rfl
theorem decimal_Make_4_0_r_ok {R : Type} (x : Pat.dens decimal_Make_4_0_p) (y : HPat.dens decimal_Make_4_0_q) (K : Ex → St → Option R) : decimal_Make_4_0_rr (decimal_Make_4_0_L) x y K = decimal_Make_4_0_A K (decimal_Make_4_0_f x y) (decimal_Make_4_0_d x y) := by kernel_rfl
theorem decimal_Make_4_0_ok {R : Type} (other : LSpec R) (ho : LsOk tt (decimal_Make_E R decimal_within_int) (decimal_Make_T R decimal_Make_4_0_L) 0 ((loopsOf (codeOf Tryd.f32)).getD 0 .skip) decimal_Make_4_0_h other) : LsOk tt (decimal_Make_E R decimal_within_int) (decimal_Make_T R decimal_Make_4_0_L) 0 ((loopsOf (codeOf Tryd.f32)).getD 0 .skip) decimal_Make_4_0_h (loopBy decimal_Make_4_0_p decimal_Make_4_0_q (decimal_Make_4_0_rr (decimal_Make_4_0_L)) other) :=
  loopBy_tie (A := decimal_Make_4_0_A) ho (loop_tie decimal_Make_4_0_enc (decimal_Make_4_0_s) (decimal_Make_4_0_A) (decimal_Make_4_0_A_zero) (decimal_Make_4_0_B_ok decimal_within_int decimal_Make_4_0_L) (decimal_Make_4_0_A_succ)) decimal_Make_4_0_f decimal_Make_4_0_d decimal_Make_4_0_e_ok (decimal_Make_4_0_r_ok)

noncomputable def decimal_Make_X {R : Type} (decimal_within_int : decimal_within_int_ty R) (decimal_Make_4_0_L : decimal_Make_4_0_ty R) (x1 : Int) (x2 : Int) (k0 : Dcm → Bool → Option R) : Option R :=
  bif (x1 == 0) then (k0 (⟨0, 0⟩ : Dcm) true) else (decimal_Make_4_0_L (Int.natAbs x1 + Int.natAbs (min x2 1000000) + Dcm.fu (⟨0, 0⟩ : Dcm) + 64) x1 (min x2 1000000) (⟨0, 0⟩ : Dcm) (fun y6 y7 y8 => decimal_within_int (-1000000000000000) y6 1000000000000000 (fun y9 => bif (!y9) then (k0 (⟨0, 0⟩ : Dcm) false) else (decimal_within_int (-9) y7 9 (fun y10 => bif (!y10) then (k0 (⟨0, 0⟩ : Dcm) false) else (k0 (⟨y6, y7⟩ : Dcm) true))))))
noncomputable def decimal_Make {R : Type} : decimal_Make_ty R := fun x1 x2 k0 => decimal_Make_X decimal_within_int decimal_Make_4_0_L x1 x2 k0
theorem decimal_Make_ok {R : Type} (decimal_within_int : decimal_within_int_ty R) (decimal_Make_4_0_L : decimal_Make_4_0_ty R) (x1 : Int) (x2 : Int) (k : V → Heap → Option R) : funK tt (decimal_Make_E R decimal_within_int) (decimal_Make_T R decimal_Make_4_0_L) false Tryd.f32 (codeOf Tryd.f32) [.int .i64 x1, .int .i64 x2] [] k =
    decimal_Make_X decimal_within_int decimal_Make_4_0_L x1 x2 (fun q0 q1 => k (.tuple [.agg [.int .i64 q0.mant, .int .i64 q0.exp], .bool q1]) []) := by kernel_rfl
theorem decimal_Make_loops (R : Type) : ∀ a ∈ loopsOf (codeOf Tryd.f32), LoopOk tt (decimal_Make_E R decimal_within_int) (decimal_Make_T R decimal_Make_4_0_L) 0 a := by
  refine loops_ok 1 (by kernel_rfl) fun i hi => ?_
  match i, hi with
  | 0, _ => exact loopOk_some (by kernel_rfl) (decimal_Make_4_0_ok _ loopNo_ok)
  | n + 1, hi => omega
theorem decimal_Make_S_ok (R : Type) (other : Yard.Spec R) (ho : Yard.Spec.Ok Tryd.prog 32 other) : Yard.Spec.Ok Tryd.prog 32 (specBy decimal_Make_p decimal_Make_q (decimal_Make_rr decimal_Make) other) :=
  specBy_ok ho (funK_sound TT mixed (decimal_Make_EOk R) (keep := false) rfl rfl rfl rfl 0 (decimal_Make_loops R)) fun (x : Pat.dens decimal_Make_p) (y : HPat.dens decimal_Make_q) k => decimal_Make_ok decimal_within_int decimal_Make_4_0_L x.1 x.2.1 k

/-! ### humpyard/decimal.Parse -/
abbrev decimal_Parse_ty (R : Type) : Type := Str → (Dcm → Bool → Option R) → Option R
abbrev decimal_Parse_p : List Pat := [.leaf (.str)]
abbrev decimal_Parse_q : List HPat := []
noncomputable def decimal_Parse_rr {R : Type} (fn : decimal_Parse_ty R) : Pat.dens decimal_Parse_p → HPat.dens decimal_Parse_q → (V → Heap → Option R) → Option R := fun x y k => fn x.1 (fun q0 q1 => k (.tuple [.agg [.int .i64 q0.mant, .int .i64 q0.exp], .bool q1]) [])
noncomputable def decimal_Parse_E (R : Type) (decimal_Make : decimal_Make_ty R) (decimal_reader_sign_e74a : decimal_reader_sign_e74a_ty R) (decimal_reader_digits_abbd : decimal_reader_digits_abbd_ty R) (decimal_reader_exponent_abbd : decimal_reader_exponent_abbd_ty R) : Env R := fun i => match i with
  | 32 => some (true, (specBy decimal_Make_p decimal_Make_q (decimal_Make_rr decimal_Make) specNo))
  | 58 => some (false, (specBy decimal_reader_sign_e74a_p decimal_reader_sign_e74a_q (decimal_reader_sign_e74a_rr decimal_reader_sign_e74a) specNo))
  | 59 => some (false, (specBy decimal_reader_digits_abbd_p decimal_reader_digits_abbd_q (decimal_reader_digits_abbd_rr decimal_reader_digits_abbd) specNo))
  | 60 => some (false, (specBy decimal_reader_exponent_abbd_p decimal_reader_exponent_abbd_q (decimal_reader_exponent_abbd_rr decimal_reader_exponent_abbd) specNo))
  | 61 => some (true, (trimL_S R))
  | 62 => some (true, (trimR_S R))
  | 63 => some (true, (atoi_S R))
  | _ => none
theorem decimal_Parse_EOk (R : Type) : EOk Tryd.prog (decimal_Parse_E R decimal_Make decimal_reader_sign_e74a decimal_reader_digits_abbd decimal_reader_exponent_abbd) := by
  intro i b sp h
  unfold decimal_Parse_E at h
  split at h
  · cases h; exact ⟨(decimal_Make_S_ok R _ (specNo_ok _)), fun h => nomatch h⟩
  · cases h; exact ⟨(decimal_reader_sign_e74a_S_ok R _ (specNo_ok _)), fun _ h => nomatch h⟩
  · cases h; exact ⟨(decimal_reader_digits_abbd_S_ok R _ (specNo_ok _)), fun _ h => nomatch h⟩
  · cases h; exact ⟨(decimal_reader_exponent_abbd_S_ok R _ (specNo_ok _)), fun _ h => nomatch h⟩
  · cases h; exact ⟨(trimL_ok), fun h => nomatch h⟩
  · cases h; exact ⟨(trimR_ok), fun h => nomatch h⟩
  · cases h; exact ⟨(atoi_ok), fun h => nomatch h⟩
  · cases h

noncomputable def decimal_Parse_T (R : Type) : Nat → Option (Hint × LSpec R) := fun i => match i with
  | _ => none

noncomputable def decimal_Parse_X {R : Type} (decimal_Make : decimal_Make_ty R) (decimal_reader_sign_e74a : decimal_reader_sign_e74a_ty R) (decimal_reader_digits_abbd : decimal_reader_digits_abbd_ty R) (decimal_reader_exponent_abbd : decimal_reader_exponent_abbd_ty R) (x1 : Str) (k0 : Dcm → Bool → Option R) : Option R :=
  decimal_reader_sign_e74a ([45] : Str) x1 (fun y2 y3 => decimal_reader_digits_abbd y3 (fun y4 y5 => let j32 := let j31 := fun (z11 : Str) (z12 : Int) (z13 : Str) => let j30 := fun (z19 : Int) (z20 : Str) => chk (isAsc ([48] : Str) && decide (([48] : Str).length < 4294967281)) (chk (isAsc ([48] : Str) && decide (([48] : Str).length < 4294967281)) (bif (!(z20 == ([] : Str))) then (k0 (⟨0, 0⟩ : Dcm) false) else (bif (decide (((trimR (trimL z11 ([48] : Str)) ([48] : Str)).length : Int) > (18 : Int))) then (k0 (⟨0, 0⟩ : Dcm) false) else (let j29 := bif (y2 != 0) then (decimal_Make (IntKind.i64.wrap (0 - (atoiVal (([48] : Str) ++ (trimR (trimL z11 ([48] : Str)) ([48] : Str)))))) (IntKind.i64.wrap (z19 + (IntKind.i64.wrap (((trimL z11 ([48] : Str)).length : Int) - ((trimR (trimL z11 ([48] : Str)) ([48] : Str)).length : Int))))) (fun y25 y26 => k0 y25 y26)) else (decimal_Make (atoiVal (([48] : Str) ++ (trimR (trimL z11 ([48] : Str)) ([48] : Str)))) (IntKind.i64.wrap (z19 + (IntKind.i64.wrap (((trimL z11 ([48] : Str)).length : Int) - ((trimR (trimL z11 ([48] : Str)) ([48] : Str)).length : Int))))) (fun y27 y28 => k0 y27 y28)); chk (decide (1 + (trimR (trimL z11 ([48] : Str)) ([48] : Str)).length ≤ 9223372036854775807)) (chk (decide ((([48] : Str) ++ (trimR (trimL z11 ([48] : Str)) ([48] : Str))).length ≤ 281474976710656)) (bif atoiOk (([48] : Str) ++ (trimR (trimL z11 ([48] : Str)) ([48] : Str))) then (j29) else (j29))))))); decimal_reader_sign_e74a ([101, 69] : Str) z13 (fun y14 y15 => bif (y14 != 0) then (decimal_reader_exponent_abbd y15 (fun y16 y17 y18 => bif (!y17) then (k0 (⟨0, 0⟩ : Dcm) false) else (j30 (IntKind.i64.wrap (z12 + y16)) y18))) else (j30 z12 y15)); decimal_reader_sign_e74a ([46] : Str) y5 (fun y7 y8 => bif (y7 != 0) then (decimal_reader_digits_abbd y8 (fun y9 y10 => bif (y9 == ([] : Str)) then (k0 (⟨0, 0⟩ : Dcm) false) else (chk (decide (y4.length + y9.length ≤ 9223372036854775807)) (j31 (y4 ++ y9) (IntKind.i64.wrap (0 - (y9.length : Int))) y10)))) else (j31 y4 0 y8)); bif (decide ((x1.length : Int) > (400 : Int))) then (k0 (⟨0, 0⟩ : Dcm) false) else (bif (y4 == ([] : Str)) then (k0 (⟨0, 0⟩ : Dcm) false) else (bif (decide ((y4.length : Int) > (1 : Int))) then (chk (decide ((0 : Int) < y4.length)) (bif (((y4.getD 0 0).toNat : Int) == 48) then (k0 (⟨0, 0⟩ : Dcm) false) else (j32))) else (j32)))))
noncomputable def decimal_Parse {R : Type} : decimal_Parse_ty R := fun x1 k0 => decimal_Parse_X decimal_Make decimal_reader_sign_e74a decimal_reader_digits_abbd decimal_reader_exponent_abbd x1 k0
theorem decimal_Parse_ok {R : Type} (decimal_Make : decimal_Make_ty R) (decimal_reader_sign_e74a : decimal_reader_sign_e74a_ty R) (decimal_reader_digits_abbd : decimal_reader_digits_abbd_ty R) (decimal_reader_exponent_abbd : decimal_reader_exponent_abbd_ty R) (x1 : Str) (k : V → Heap → Option R) : funK tt (decimal_Parse_E R decimal_Make decimal_reader_sign_e74a decimal_reader_digits_abbd decimal_reader_exponent_abbd) (decimal_Parse_T R) false Tryd.f29 (codeOf Tryd.f29) [.str x1] [] k =
    decimal_Parse_X decimal_Make decimal_reader_sign_e74a decimal_reader_digits_abbd decimal_reader_exponent_abbd x1 (fun q0 q1 => k (.tuple [.agg [.int .i64 q0.mant, .int .i64 q0.exp], .bool q1]) []) := by kernel_rfl
theorem decimal_Parse_loops (R : Type) : ∀ a ∈ loopsOf (codeOf Tryd.f29), LoopOk tt (decimal_Parse_E R decimal_Make decimal_reader_sign_e74a decimal_reader_digits_abbd decimal_reader_exponent_abbd) (decimal_Parse_T R) 0 a := by
  refine loops_ok 0 (by kernel_rfl) fun i hi => ?_
  omega
theorem decimal_Parse_S_ok (R : Type) (other : Yard.Spec R) (ho : Yard.Spec.Ok Tryd.prog 29 other) : Yard.Spec.Ok Tryd.prog 29 (specBy decimal_Parse_p decimal_Parse_q (decimal_Parse_rr decimal_Parse) other) :=
  specBy_ok ho (funK_sound TT mixed (decimal_Parse_EOk R) (keep := false) rfl rfl rfl rfl 0 (decimal_Parse_loops R)) fun (x : Pat.dens decimal_Parse_p) (y : HPat.dens decimal_Parse_q) k => decimal_Parse_ok decimal_Make decimal_reader_sign_e74a decimal_reader_digits_abbd decimal_reader_exponent_abbd x.1 k

/-! ### humpyard/decimal.Right -/
abbrev decimal_Right_ty (R : Type) : Type := Dcm → (Bool → Option R) → Option R
abbrev decimal_Right_p : List Pat := [.agg [.int .i64, .int .i64]]
abbrev decimal_Right_q : List HPat := []
noncomputable def decimal_Right_rr {R : Type} (fn : decimal_Right_ty R) : Pat.dens decimal_Right_p → HPat.dens decimal_Right_q → (V → Heap → Option R) → Option R := fun x y k => fn (⟨x.1.1, x.1.2.1⟩ : Dcm) (fun q0 => k (.bool q0) [])
noncomputable def decimal_Right_E (R : Type) (decimal_within_int : decimal_within_int_ty R) : Env R := fun i => match i with
  | 64 => some (true, (specBy decimal_within_int_p decimal_within_int_q (decimal_within_int_rr decimal_within_int) specNo))
  | _ => none
theorem decimal_Right_EOk (R : Type) : EOk Tryd.prog (decimal_Right_E R decimal_within_int) := by
  intro i b sp h
  unfold decimal_Right_E at h
  split at h
  · cases h; exact ⟨(decimal_within_int_S_ok R _ (specNo_ok _)), fun h => nomatch h⟩
  · cases h

noncomputable def decimal_Right_T (R : Type) : Nat → Option (Hint × LSpec R) := fun i => match i with
  | _ => none

noncomputable def decimal_Right_X {R : Type} (decimal_within_int : decimal_within_int_ty R) (x1 : Dcm) (k0 : Bool → Option R) : Option R :=
  bif (x1.mant == 0) then (k0 (x1.exp == 0)) else (bif ((Int.tmod x1.mant 10) != 0) then (decimal_within_int (-1000000000000000) x1.mant 1000000000000000 (fun y2 => bif y2 then (decimal_within_int (-9) x1.exp 9 (fun y3 => k0 y3)) else (k0 false))) else (k0 false))
noncomputable def decimal_Right {R : Type} : decimal_Right_ty R := fun x1 k0 => decimal_Right_X decimal_within_int x1 k0
theorem decimal_Right_ok {R : Type} (decimal_within_int : decimal_within_int_ty R) (x1 : Dcm) (k : V → Heap → Option R) : funK tt (decimal_Right_E R decimal_within_int) (decimal_Right_T R) false Tryd.f30 (codeOf Tryd.f30) [.agg [.int .i64 x1.mant, .int .i64 x1.exp]] [] k =
    decimal_Right_X decimal_within_int x1 (fun q0 => k (.bool q0) []) := by kernel_rfl
theorem decimal_Right_loops (R : Type) : ∀ a ∈ loopsOf (codeOf Tryd.f30), LoopOk tt (decimal_Right_E R decimal_within_int) (decimal_Right_T R) 0 a := by
  refine loops_ok 0 (by kernel_rfl) fun i hi => ?_
  omega
theorem decimal_Right_S_ok (R : Type) (other : Yard.Spec R) (ho : Yard.Spec.Ok Tryd.prog 30 other) : Yard.Spec.Ok Tryd.prog 30 (specBy decimal_Right_p decimal_Right_q (decimal_Right_rr decimal_Right) other) :=
  specBy_ok ho (funK_sound TT mixed (decimal_Right_EOk R) (keep := false) rfl rfl rfl rfl 0 (decimal_Right_loops R)) fun (x : Pat.dens decimal_Right_p) (y : HPat.dens decimal_Right_q) k => decimal_Right_ok decimal_within_int (⟨x.1.1, x.1.2.1⟩ : Dcm) k

end Go.Proofs.YtifgegmnngfckaaDoor

/-
  Functions of the program as pure Lean functions, and the ties; printed by wip/tools/emit.py.
-/
set_option maxRecDepth 100000
set_option linter.unusedVariables false
namespace Go.Proofs.YtifgegmnngfckaaDoor
open Go Go.Yard

/-! ### humpyard/decimal.shifted -/
abbrev decimal_shifted_ty (R : Type) : Type := Dcm → Int → (Int → Bool → Option R) → Option R
abbrev decimal_shifted_p : List Pat := [.agg [.int .i64, .int .i64], .leaf (.int .i64)]
abbrev decimal_shifted_q : List HPat := []
noncomputable def decimal_shifted_rr {R : Type} (fn : decimal_shifted_ty R) : Pat.dens decimal_shifted_p → HPat.dens decimal_shifted_q → (V → Heap → Option R) → Option R := fun x y k => fn (⟨x.1.1, x.1.2.1⟩ : Dcm) x.2.1 (fun q0 q1 => k (.tuple [.int .i64 q0, .bool q1]) [])
abbrev decimal_shifted_3_0_ty (R : Type) : Type := Nat → Int → Int → Int → (Int → Option R) → (Int → Bool → Int → Option R) → Option R
noncomputable def decimal_shifted_E (R : Type) (decimal_within_int : decimal_within_int_ty R) : Env R := fun i => match i with
  | 64 => some (true, (specBy decimal_within_int_p decimal_within_int_q (decimal_within_int_rr decimal_within_int) specNo))
  | _ => none
theorem decimal_shifted_EOk (R : Type) : EOk Tryd.prog (decimal_shifted_E R decimal_within_int) := by
  intro i b sp h
  unfold decimal_shifted_E at h
  split at h
  · cases h; exact ⟨(decimal_within_int_S_ok R _ (specNo_ok _)), fun h => nomatch h⟩
  · cases h

noncomputable def decimal_shifted_3_0_B {R : Type} (decimal_within_int : decimal_within_int_ty R) (rec' : Int → Int → Int → Option R) (x3 : Int) (x4 : Int) (x5 : Int) (e0 : Int → Option R) (e1 : Int → Bool → Int → Option R) : Option R :=
  bif (decide (x5 < x4)) then (decimal_within_int (-100000000000000000) x3 100000000000000000 (fun y6 => bif (!y6) then (e1 0 false x3) else (rec' (IntKind.i64.wrap (x3 * 10)) x4 (IntKind.i64.wrap (x5 + 1))))) else (e0 x3)
noncomputable def decimal_shifted_3_0_L {R : Type} : decimal_shifted_3_0_ty R
  | 0, _, _, _, _, _ => none
  | n + 1, x0', x1', x2', e0, e1 => decimal_shifted_3_0_B decimal_within_int (fun x0' x1' x2' => decimal_shifted_3_0_L n x0' x1' x2' e0 e1) x0' x1' x2' e0 e1
noncomputable def decimal_shifted_3_0_h : Hint := { live := [6, 12, 13], own := [], rows := [], cells := [], drop := [], out := [4, 5, 6] }
abbrev decimal_shifted_3_0_D : Type := Int × Int × Int
noncomputable def decimal_shifted_3_0_enc : decimal_shifted_3_0_D → St := fun d => ⟨[.undef, .undef, .undef, .undef, .undef, .undef, .int .i64 d.1, .undef, .undef, .undef, .undef, .undef, .int .i64 d.2.1, .int .i64 d.2.2, .undef, .undef, .undef, .undef, .undef, .undef, .undef, .undef], []⟩
noncomputable def decimal_shifted_3_0_x0 {R : Type} (K : Ex → St → Option R) (q0 : Int) : Option R := K (.exit 0) ⟨[.undef, .undef, .undef, .undef, .undef, .undef, .int .i64 q0, .undef, .undef, .undef, .undef, .undef, .undef, .undef, .undef, .undef, .undef, .undef, .undef, .undef, .undef, .undef], []⟩
noncomputable def decimal_shifted_3_0_x1 {R : Type} (K : Ex → St → Option R) (q0 : Int) (q1 : Bool) (q2 : Int) : Option R := K (.ret) ⟨[.undef, .undef, .undef, .undef, .int .i64 q0, .bool q1, .int .i64 q2, .undef, .undef, .undef, .undef, .undef, .undef, .undef, .undef, .undef, .undef, .undef, .undef, .undef, .undef, .undef], []⟩
noncomputable def decimal_shifted_3_0_s {R : Type} (decimal_within_int : decimal_within_int_ty R) (K : Ex → St → Option R) (rc : decimal_shifted_3_0_D → Option R) (d : decimal_shifted_3_0_D) : Option R := decimal_shifted_3_0_B decimal_within_int (fun z0 z1 z2 => rc (z0, z1, z2)) d.1 d.2.1 d.2.2 (decimal_shifted_3_0_x0 K) (decimal_shifted_3_0_x1 K)
noncomputable def decimal_shifted_3_0_A {R : Type} (K : Ex → St → Option R) (n : Nat) (d : decimal_shifted_3_0_D) : Option R := decimal_shifted_3_0_L n d.1 d.2.1 d.2.2 (decimal_shifted_3_0_x0 K) (decimal_shifted_3_0_x1 K)
abbrev decimal_shifted_3_0_p : List Pat := [.leaf (.undef), .leaf (.undef), .leaf (.undef), .leaf (.undef), .leaf (.undef), .leaf (.undef), .leaf (.int .i64), .leaf (.undef), .leaf (.undef), .leaf (.undef), .leaf (.undef), .leaf (.undef), .leaf (.int .i64), .leaf (.int .i64), .leaf (.undef), .leaf (.undef), .leaf (.undef), .leaf (.undef), .leaf (.undef), .leaf (.undef), .leaf (.undef), .leaf (.undef)]
abbrev decimal_shifted_3_0_q : List HPat := []
noncomputable def decimal_shifted_3_0_f (x : Pat.dens decimal_shifted_3_0_p) (y : HPat.dens decimal_shifted_3_0_q) : Nat := (Int.natAbs x.2.2.2.2.2.2.1 + Int.natAbs x.2.2.2.2.2.2.2.2.2.2.2.2.1 + Int.natAbs x.2.2.2.2.2.2.2.2.2.2.2.2.2.1 + 64)
noncomputable def decimal_shifted_3_0_d (x : Pat.dens decimal_shifted_3_0_p) (y : HPat.dens decimal_shifted_3_0_q) : decimal_shifted_3_0_D := (x.2.2.2.2.2.2.1, x.2.2.2.2.2.2.2.2.2.2.2.2.1, x.2.2.2.2.2.2.2.2.2.2.2.2.2.1)
noncomputable def decimal_shifted_3_0_rr {R : Type} (L : decimal_shifted_3_0_ty R) : Pat.dens decimal_shifted_3_0_p → HPat.dens decimal_shifted_3_0_q → (Ex → St → Option R) → Option R := fun x y K => L (decimal_shifted_3_0_f x y) x.2.2.2.2.2.2.1 x.2.2.2.2.2.2.2.2.2.2.2.2.1 x.2.2.2.2.2.2.2.2.2.2.2.2.2.1 (decimal_shifted_3_0_x0 K) (decimal_shifted_3_0_x1 K)
noncomputable def decimal_shifted_T (R : Type) (decimal_shifted_3_0_L : decimal_shifted_3_0_ty R) : Nat → Option (Hint × LSpec R) := fun i => match i with
  | 3 => some (decimal_shifted_3_0_h, (loopBy decimal_shifted_3_0_p decimal_shifted_3_0_q (decimal_shifted_3_0_rr decimal_shifted_3_0_L) loopNo))
  | _ => none

theorem decimal_shifted_3_0_B_ok {R : Type} (decimal_within_int : decimal_within_int_ty R) (decimal_shifted_3_0_L : decimal_shifted_3_0_ty R) (K : Ex → St → Option R) (rc : St → Option R) (d : decimal_shifted_3_0_D) : roundOf tt (decimal_shifted_E R decimal_within_int) (decimal_shifted_T R decimal_shifted_3_0_L) 0 ((loopsOf (codeOf Tryd.f68)).getD 0 .skip) decimal_shifted_3_0_h (decimal_shifted_3_0_enc d) rc K = decimal_shifted_3_0_s decimal_within_int K (fun d => rc (decimal_shifted_3_0_enc d)) d := by kernel_rfl
theorem decimal_shifted_3_0_A_succ {R : Type} (K : Ex → St → Option R) (n : Nat) (d : decimal_shifted_3_0_D) : decimal_shifted_3_0_A K (n + 1) d = decimal_shifted_3_0_s decimal_within_int K (decimal_shifted_3_0_A K n) d := by kernel_rfl
theorem decimal_shifted_3_0_A_zero {R : Type} (K : Ex → St → Option R) (d : decimal_shifted_3_0_D) : decimal_shifted_3_0_A K 0 d = none := by kernel_rfl
theorem decimal_shifted_3_0_e_ok (x : Pat.dens decimal_shifted_3_0_p) (y : HPat.dens decimal_shifted_3_0_q) : (⟨Pat.encL decimal_shifted_3_0_p x, HPat.encL decimal_shifted_3_0_q y⟩ : St) = decimal_shifted_3_0_enc (decimal_shifted_3_0_d x y) := by kernel_rfl
theorem decimal_shifted_3_0_r_ok {R : Type} (x : Pat.dens decimal_shifted_3_0_p) (y : HPat.dens decimal_shifted_3_0_q) (K : Ex → St → Option R) : decimal_shifted_3_0_rr (decimal_shifted_3_0_L) x y K = decimal_shifted_3_0_A K (decimal_shifted_3_0_f x y) (decimal_shifted_3_0_d x y) := by kernel_rfl
theorem decimal_shifted_3_0_ok {R : Type} (other : LSpec R) (ho : LsOk tt (decimal_shifted_E R decimal_within_int) (decimal_shifted_T R decimal_shifted_3_0_L) 0 ((loopsOf (codeOf Tryd.f68)).getD 0 .skip) decimal_shifted_3_0_h other) : LsOk tt (decimal_shifted_E R decimal_within_int) (decimal_shifted_T R decimal_shifted_3_0_L) 0 ((loopsOf (codeOf Tryd.f68)).getD 0 .skip) decimal_shifted_3_0_h (loopBy decimal_shifted_3_0_p decimal_shifted_3_0_q (decimal_shifted_3_0_rr (decimal_shifted_3_0_L)) other) :=
  loopBy_tie (A := decimal_shifted_3_0_A) ho (loop_tie decimal_shifted_3_0_enc (decimal_shifted_3_0_s decimal_within_int) (decimal_shifted_3_0_A) (decimal_shifted_3_0_A_zero) (decimal_shifted_3_0_B_ok decimal_within_int decimal_shifted_3_0_L) (decimal_shifted_3_0_A_succ)) decimal_shifted_3_0_f decimal_shifted_3_0_d decimal_shifted_3_0_e_ok (decimal_shifted_3_0_r_ok)

noncomputable def decimal_shifted_X {R : Type} (decimal_shifted_3_0_L : decimal_shifted_3_0_ty R) (x1 : Dcm) (x2 : Int) (k0 : Int → Bool → Option R) : Option R :=
  decimal_shifted_3_0_L (Int.natAbs x1.mant + Int.natAbs (IntKind.i64.wrap (x1.exp - x2)) + Int.natAbs 0 + 64) x1.mant (IntKind.i64.wrap (x1.exp - x2)) 0 (fun y7 => k0 y7 true) (fun y8 y9 y10 => k0 y8 y9)
noncomputable def decimal_shifted {R : Type} : decimal_shifted_ty R := fun x1 x2 k0 => decimal_shifted_X decimal_shifted_3_0_L x1 x2 k0
theorem decimal_shifted_ok {R : Type} (decimal_within_int : decimal_within_int_ty R) (decimal_shifted_3_0_L : decimal_shifted_3_0_ty R) (x1 : Dcm) (x2 : Int) (k : V → Heap → Option R) : funK tt (decimal_shifted_E R decimal_within_int) (decimal_shifted_T R decimal_shifted_3_0_L) false Tryd.f68 (codeOf Tryd.f68) [.agg [.int .i64 x1.mant, .int .i64 x1.exp], .int .i64 x2] [] k =
    decimal_shifted_X decimal_shifted_3_0_L x1 x2 (fun q0 q1 => k (.tuple [.int .i64 q0, .bool q1]) []) := by kernel_rfl
theorem decimal_shifted_loops (R : Type) : ∀ a ∈ loopsOf (codeOf Tryd.f68), LoopOk tt (decimal_shifted_E R decimal_within_int) (decimal_shifted_T R decimal_shifted_3_0_L) 0 a := by
  refine loops_ok 1 (by kernel_rfl) fun i hi => ?_
  match i, hi with
  | 0, _ => exact loopOk_some (by kernel_rfl) (decimal_shifted_3_0_ok _ loopNo_ok)
  | n + 1, hi => omega
theorem decimal_shifted_S_ok (R : Type) (other : Yard.Spec R) (ho : Yard.Spec.Ok Tryd.prog 68 other) : Yard.Spec.Ok Tryd.prog 68 (specBy decimal_shifted_p decimal_shifted_q (decimal_shifted_rr decimal_shifted) other) :=
  specBy_ok ho (funK_sound TT mixed (decimal_shifted_EOk R) (keep := false) rfl rfl rfl rfl 0 (decimal_shifted_loops R)) fun (x : Pat.dens decimal_shifted_p) (y : HPat.dens decimal_shifted_q) k => decimal_shifted_ok decimal_within_int decimal_shifted_3_0_L (⟨x.1.1, x.1.2.1⟩ : Dcm) x.2.1 k

/-! ### humpyard/decimal.Int -/
abbrev decimal_Int_ty (R : Type) : Type := Dcm → (Int → Bool → Option R) → Option R
abbrev decimal_Int_p : List Pat := [.agg [.int .i64, .int .i64]]
abbrev decimal_Int_q : List HPat := []
noncomputable def decimal_Int_rr {R : Type} (fn : decimal_Int_ty R) : Pat.dens decimal_Int_p → HPat.dens decimal_Int_q → (V → Heap → Option R) → Option R := fun x y k => fn (⟨x.1.1, x.1.2.1⟩ : Dcm) (fun q0 q1 => k (.tuple [.int .i64 q0, .bool q1]) [])
noncomputable def decimal_Int_E (R : Type) (decimal_Right : decimal_Right_ty R) (decimal_shifted : decimal_shifted_ty R) : Env R := fun i => match i with
  | 30 => some (true, (specBy decimal_Right_p decimal_Right_q (decimal_Right_rr decimal_Right) specNo))
  | 68 => some (true, (specBy decimal_shifted_p decimal_shifted_q (decimal_shifted_rr decimal_shifted) specNo))
  | _ => none
theorem decimal_Int_EOk (R : Type) : EOk Tryd.prog (decimal_Int_E R decimal_Right decimal_shifted) := by
  intro i b sp h
  unfold decimal_Int_E at h
  split at h
  · cases h; exact ⟨(decimal_Right_S_ok R _ (specNo_ok _)), fun h => nomatch h⟩
  · cases h; exact ⟨(decimal_shifted_S_ok R _ (specNo_ok _)), fun h => nomatch h⟩
  · cases h

noncomputable def decimal_Int_T (R : Type) : Nat → Option (Hint × LSpec R) := fun i => match i with
  | _ => none

noncomputable def decimal_Int_X {R : Type} (decimal_Right : decimal_Right_ty R) (decimal_shifted : decimal_shifted_ty R) (x1 : Dcm) (k0 : Int → Bool → Option R) : Option R :=
  decimal_Right x1 (fun y2 => bif (!y2) then (k0 0 false) else (bif (decide (x1.exp < (0 : Int))) then (k0 0 false) else (decimal_shifted x1 0 (fun y4 y5 => k0 y4 y5))))
noncomputable def decimal_Int {R : Type} : decimal_Int_ty R := fun x1 k0 => decimal_Int_X decimal_Right decimal_shifted x1 k0
theorem decimal_Int_ok {R : Type} (decimal_Right : decimal_Right_ty R) (decimal_shifted : decimal_shifted_ty R) (x1 : Dcm) (k : V → Heap → Option R) : funK tt (decimal_Int_E R decimal_Right decimal_shifted) (decimal_Int_T R) false Tryd.f39 (codeOf Tryd.f39) [.agg [.int .i64 x1.mant, .int .i64 x1.exp]] [] k =
    decimal_Int_X decimal_Right decimal_shifted x1 (fun q0 q1 => k (.tuple [.int .i64 q0, .bool q1]) []) := by kernel_rfl
theorem decimal_Int_loops (R : Type) : ∀ a ∈ loopsOf (codeOf Tryd.f39), LoopOk tt (decimal_Int_E R decimal_Right decimal_shifted) (decimal_Int_T R) 0 a := by
  refine loops_ok 0 (by kernel_rfl) fun i hi => ?_
  omega
theorem decimal_Int_S_ok (R : Type) (other : Yard.Spec R) (ho : Yard.Spec.Ok Tryd.prog 39 other) : Yard.Spec.Ok Tryd.prog 39 (specBy decimal_Int_p decimal_Int_q (decimal_Int_rr decimal_Int) other) :=
  specBy_ok ho (funK_sound TT mixed (decimal_Int_EOk R) (keep := false) rfl rfl rfl rfl 0 (decimal_Int_loops R)) fun (x : Pat.dens decimal_Int_p) (y : HPat.dens decimal_Int_q) k => decimal_Int_ok decimal_Right decimal_shifted (⟨x.1.1, x.1.2.1⟩ : Dcm) k

/-! ### (*strings.Builder).WriteString -/
abbrev strings_Builder_WriteString_fb8e_ty (R : Type) : Type := Str → (Int → (List Int) → Option R) → Option R
abbrev strings_Builder_WriteString_fb8e_p : List Pat := [.leaf (.ptr 0 0), .leaf (.str)]
abbrev strings_Builder_WriteString_fb8e_q : List HPat := [.bld (.nilsl)]
noncomputable def strings_Builder_WriteString_fb8e_rr {R : Type} (fn : strings_Builder_WriteString_fb8e_ty R) : Pat.dens strings_Builder_WriteString_fb8e_p → HPat.dens strings_Builder_WriteString_fb8e_q → (V → Heap → Option R) → Option R := fun x y k => fn x.2.1 (fun q0 q1 => k (.tuple [.int .i64 q0, .niliface]) [.bld (.sl (.int .u8) q1 (.own 1)), .tok])
noncomputable def strings_Builder_WriteString_fb8e_E (R : Type) : Env R := fun i => match i with
  | 72 => some (false, (bcc_S R))
  | _ => none
theorem strings_Builder_WriteString_fb8e_EOk (R : Type) : EOk Tryd.prog (strings_Builder_WriteString_fb8e_E R) := by
  intro i b sp h
  unfold strings_Builder_WriteString_fb8e_E at h
  split at h
  · cases h; exact ⟨(bcc_is), fun _ h => nomatch h⟩
  · cases h

noncomputable def strings_Builder_WriteString_fb8e_T (R : Type) : Nat → Option (Hint × LSpec R) := fun i => match i with
  | _ => none

noncomputable def strings_Builder_WriteString_fb8e_X {R : Type} (x1 : Str) (k0 : Int → (List Int) → Option R) : Option R :=
  chk (decide ((0 + (bytesN x1).length) * 1 ≤ 140737488355328)) (k0 (x1.length : Int) (bytesN x1))
noncomputable def strings_Builder_WriteString_fb8e {R : Type} : strings_Builder_WriteString_fb8e_ty R := fun x1 k0 => strings_Builder_WriteString_fb8e_X x1 k0
theorem strings_Builder_WriteString_fb8e_ok {R : Type} (x1 : Str) (k : V → Heap → Option R) : funK tt (strings_Builder_WriteString_fb8e_E R) (strings_Builder_WriteString_fb8e_T R) false Tryd.f47 (codeOf Tryd.f47) [.ptr 0 0, .str x1] [.bld (.nilsl)] k =
    strings_Builder_WriteString_fb8e_X x1 (fun q0 q1 => k (.tuple [.int .i64 q0, .niliface]) [.bld (.sl (.int .u8) q1 (.own 1)), .tok]) := by kernel_rfl
theorem strings_Builder_WriteString_fb8e_loops (R : Type) : ∀ a ∈ loopsOf (codeOf Tryd.f47), LoopOk tt (strings_Builder_WriteString_fb8e_E R) (strings_Builder_WriteString_fb8e_T R) 1 a := by
  refine loops_ok 0 (by kernel_rfl) fun i hi => ?_
  omega
theorem strings_Builder_WriteString_fb8e_S_ok (R : Type) (other : Yard.Spec R) (ho : Yard.Spec.Ok Tryd.prog 47 other) : Yard.Spec.Ok Tryd.prog 47 (specBy strings_Builder_WriteString_fb8e_p strings_Builder_WriteString_fb8e_q (strings_Builder_WriteString_fb8e_rr strings_Builder_WriteString_fb8e) other) :=
  specBy_ok ho (funK_sound TT mixed (strings_Builder_WriteString_fb8e_EOk R) (keep := false) rfl rfl rfl rfl 1 (strings_Builder_WriteString_fb8e_loops R)) fun (x : Pat.dens strings_Builder_WriteString_fb8e_p) (y : HPat.dens strings_Builder_WriteString_fb8e_q) k => strings_Builder_WriteString_fb8e_ok x.2.1 k

/-! ### humpyard/decimal.Print -/
abbrev decimal_Print_ty (R : Type) : Type := Dcm → (Str → Option R) → Option R
abbrev decimal_Print_p : List Pat := [.agg [.int .i64, .int .i64]]
abbrev decimal_Print_q : List HPat := []
noncomputable def decimal_Print_rr {R : Type} (fn : decimal_Print_ty R) : Pat.dens decimal_Print_p → HPat.dens decimal_Print_q → (V → Heap → Option R) → Option R := fun x y k => fn (⟨x.1.1, x.1.2.1⟩ : Dcm) (fun q0 => k (.str q0) [])
noncomputable def decimal_Print_E (R : Type) (decimal_Right : decimal_Right_ty R) (strings_Builder_WriteByte_b66c : strings_Builder_WriteByte_b66c_ty R) (strings_Builder_WriteString_df1e : strings_Builder_WriteString_df1e_ty R) (strings_Builder_WriteString_fb8e : strings_Builder_WriteString_fb8e_ty R) : Env R := fun i => match i with
  | 30 => some (true, (specBy decimal_Right_p decimal_Right_q (decimal_Right_rr decimal_Right) specNo))
  | 45 => some (false, (specBy strings_Builder_WriteByte_b66c_p strings_Builder_WriteByte_b66c_q (strings_Builder_WriteByte_b66c_rr strings_Builder_WriteByte_b66c) specNo))
  | 47 => some (false, (specBy strings_Builder_WriteString_fb8e_p strings_Builder_WriteString_fb8e_q (strings_Builder_WriteString_fb8e_rr strings_Builder_WriteString_fb8e) (specBy strings_Builder_WriteString_df1e_p strings_Builder_WriteString_df1e_q (strings_Builder_WriteString_df1e_rr strings_Builder_WriteString_df1e) specNo)))
  | 49 => some (false, (bstr_S R))
  | 56 => some (true, (itoa_S R))
  | 57 => some (true, (rep_S R))
  | _ => none
theorem decimal_Print_EOk (R : Type) : EOk Tryd.prog (decimal_Print_E R decimal_Right strings_Builder_WriteByte_b66c strings_Builder_WriteString_df1e strings_Builder_WriteString_fb8e) := by
  intro i b sp h
  unfold decimal_Print_E at h
  split at h
  · cases h; exact ⟨(decimal_Right_S_ok R _ (specNo_ok _)), fun h => nomatch h⟩
  · cases h; exact ⟨(strings_Builder_WriteByte_b66c_S_ok R _ (specNo_ok _)), fun _ h => nomatch h⟩
  · cases h; exact ⟨(strings_Builder_WriteString_fb8e_S_ok R _ (strings_Builder_WriteString_df1e_S_ok R _ (specNo_ok _))), fun _ h => nomatch h⟩
  · cases h; exact ⟨(bstr_is), fun _ _ => bstr_soft⟩
  · cases h; exact ⟨(itoa_ok), fun h => nomatch h⟩
  · cases h; exact ⟨(rep_ok), fun h => nomatch h⟩
  · cases h

noncomputable def decimal_Print_T (R : Type) : Nat → Option (Hint × LSpec R) := fun i => match i with
  | _ => none

noncomputable def decimal_Print_X {R : Type} (decimal_Right : decimal_Right_ty R) (strings_Builder_WriteByte_b66c : strings_Builder_WriteByte_b66c_ty R) (strings_Builder_WriteString_df1e : strings_Builder_WriteString_df1e_ty R) (strings_Builder_WriteString_fb8e : strings_Builder_WriteString_fb8e_ty R) (x1 : Dcm) (k0 : Str → Option R) : Option R :=
  decimal_Right x1 (fun y2 => bif (!y2) then (k0 ([] : Str)) else (bif (decide (x1.mant < (0 : Int))) then (strings_Builder_WriteByte_b66c 45 (fun y3 => bif (decide (x1.exp ≥ (0 : Int))) then (chk (decide (0 ≤ x1.exp) && decide ((([48] : Str).length : Int) * x1.exp ≤ 140737488355328)) (chk (decide ((itoaS (max x1.mant (IntKind.i64.wrap (0 - x1.mant)))).length + (repS ([48] : Str) x1.exp).length ≤ 9223372036854775807)) (strings_Builder_WriteString_df1e ((itoaS (max x1.mant (IntKind.i64.wrap (0 - x1.mant)))) ++ (repS ([48] : Str) x1.exp)) y3 (fun y4 y5 => k0 (bstr y5))))) else (chk (decide (0 ≤ (max 0 (IntKind.i64.wrap ((IntKind.i64.wrap (1 - x1.exp)) - ((itoaS (max x1.mant (IntKind.i64.wrap (0 - x1.mant)))).length : Int))))) && decide ((([48] : Str).length : Int) * (max 0 (IntKind.i64.wrap ((IntKind.i64.wrap (1 - x1.exp)) - ((itoaS (max x1.mant (IntKind.i64.wrap (0 - x1.mant)))).length : Int)))) ≤ 140737488355328)) (chk (decide ((repS ([48] : Str) (max 0 (IntKind.i64.wrap ((IntKind.i64.wrap (1 - x1.exp)) - ((itoaS (max x1.mant (IntKind.i64.wrap (0 - x1.mant)))).length : Int))))).length + (itoaS (max x1.mant (IntKind.i64.wrap (0 - x1.mant)))).length ≤ 9223372036854775807)) (chk (decide ((0 : Int) ≤ (IntKind.i64.wrap ((((repS ([48] : Str) (max 0 (IntKind.i64.wrap ((IntKind.i64.wrap (1 - x1.exp)) - ((itoaS (max x1.mant (IntKind.i64.wrap (0 - x1.mant)))).length : Int))))) ++ (itoaS (max x1.mant (IntKind.i64.wrap (0 - x1.mant))))).length : Int) + x1.exp))) && decide ((IntKind.i64.wrap ((((repS ([48] : Str) (max 0 (IntKind.i64.wrap ((IntKind.i64.wrap (1 - x1.exp)) - ((itoaS (max x1.mant (IntKind.i64.wrap (0 - x1.mant)))).length : Int))))) ++ (itoaS (max x1.mant (IntKind.i64.wrap (0 - x1.mant))))).length : Int) + x1.exp)) ≤ ((repS ([48] : Str) (max 0 (IntKind.i64.wrap ((IntKind.i64.wrap (1 - x1.exp)) - ((itoaS (max x1.mant (IntKind.i64.wrap (0 - x1.mant)))).length : Int))))) ++ (itoaS (max x1.mant (IntKind.i64.wrap (0 - x1.mant))))).length)) (chk (decide ((0 : Int) ≤ (IntKind.i64.wrap ((((repS ([48] : Str) (max 0 (IntKind.i64.wrap ((IntKind.i64.wrap (1 - x1.exp)) - ((itoaS (max x1.mant (IntKind.i64.wrap (0 - x1.mant)))).length : Int))))) ++ (itoaS (max x1.mant (IntKind.i64.wrap (0 - x1.mant))))).length : Int) + x1.exp)))) (chk (decide (((((repS ([48] : Str) (max 0 (IntKind.i64.wrap ((IntKind.i64.wrap (1 - x1.exp)) - ((itoaS (max x1.mant (IntKind.i64.wrap (0 - x1.mant)))).length : Int))))) ++ (itoaS (max x1.mant (IntKind.i64.wrap (0 - x1.mant))))).drop 0).take ((IntKind.i64.wrap ((((repS ([48] : Str) (max 0 (IntKind.i64.wrap ((IntKind.i64.wrap (1 - x1.exp)) - ((itoaS (max x1.mant (IntKind.i64.wrap (0 - x1.mant)))).length : Int))))) ++ (itoaS (max x1.mant (IntKind.i64.wrap (0 - x1.mant))))).length : Int) + x1.exp)).toNat - 0)).length + 1 ≤ 9223372036854775807)) (chk (decide ((0 : Int) ≤ (((repS ([48] : Str) (max 0 (IntKind.i64.wrap ((IntKind.i64.wrap (1 - x1.exp)) - ((itoaS (max x1.mant (IntKind.i64.wrap (0 - x1.mant)))).length : Int))))) ++ (itoaS (max x1.mant (IntKind.i64.wrap (0 - x1.mant))))).length : Int)) && decide ((((repS ([48] : Str) (max 0 (IntKind.i64.wrap ((IntKind.i64.wrap (1 - x1.exp)) - ((itoaS (max x1.mant (IntKind.i64.wrap (0 - x1.mant)))).length : Int))))) ++ (itoaS (max x1.mant (IntKind.i64.wrap (0 - x1.mant))))).length : Int) ≤ ((repS ([48] : Str) (max 0 (IntKind.i64.wrap ((IntKind.i64.wrap (1 - x1.exp)) - ((itoaS (max x1.mant (IntKind.i64.wrap (0 - x1.mant)))).length : Int))))) ++ (itoaS (max x1.mant (IntKind.i64.wrap (0 - x1.mant))))).length)) (chk (decide ((0 : Int) ≤ (IntKind.i64.wrap ((((repS ([48] : Str) (max 0 (IntKind.i64.wrap ((IntKind.i64.wrap (1 - x1.exp)) - ((itoaS (max x1.mant (IntKind.i64.wrap (0 - x1.mant)))).length : Int))))) ++ (itoaS (max x1.mant (IntKind.i64.wrap (0 - x1.mant))))).length : Int) + x1.exp))) && decide ((IntKind.i64.wrap ((((repS ([48] : Str) (max 0 (IntKind.i64.wrap ((IntKind.i64.wrap (1 - x1.exp)) - ((itoaS (max x1.mant (IntKind.i64.wrap (0 - x1.mant)))).length : Int))))) ++ (itoaS (max x1.mant (IntKind.i64.wrap (0 - x1.mant))))).length : Int) + x1.exp)) ≤ (((repS ([48] : Str) (max 0 (IntKind.i64.wrap ((IntKind.i64.wrap (1 - x1.exp)) - ((itoaS (max x1.mant (IntKind.i64.wrap (0 - x1.mant)))).length : Int))))) ++ (itoaS (max x1.mant (IntKind.i64.wrap (0 - x1.mant))))).length : Int))) (chk (decide ((((((repS ([48] : Str) (max 0 (IntKind.i64.wrap ((IntKind.i64.wrap (1 - x1.exp)) - ((itoaS (max x1.mant (IntKind.i64.wrap (0 - x1.mant)))).length : Int))))) ++ (itoaS (max x1.mant (IntKind.i64.wrap (0 - x1.mant))))).drop 0).take ((IntKind.i64.wrap ((((repS ([48] : Str) (max 0 (IntKind.i64.wrap ((IntKind.i64.wrap (1 - x1.exp)) - ((itoaS (max x1.mant (IntKind.i64.wrap (0 - x1.mant)))).length : Int))))) ++ (itoaS (max x1.mant (IntKind.i64.wrap (0 - x1.mant))))).length : Int) + x1.exp)).toNat - 0)) ++ ([46] : Str)).length + ((((repS ([48] : Str) (max 0 (IntKind.i64.wrap ((IntKind.i64.wrap (1 - x1.exp)) - ((itoaS (max x1.mant (IntKind.i64.wrap (0 - x1.mant)))).length : Int))))) ++ (itoaS (max x1.mant (IntKind.i64.wrap (0 - x1.mant))))).drop (IntKind.i64.wrap ((((repS ([48] : Str) (max 0 (IntKind.i64.wrap ((IntKind.i64.wrap (1 - x1.exp)) - ((itoaS (max x1.mant (IntKind.i64.wrap (0 - x1.mant)))).length : Int))))) ++ (itoaS (max x1.mant (IntKind.i64.wrap (0 - x1.mant))))).length : Int) + x1.exp)).toNat).take ((((repS ([48] : Str) (max 0 (IntKind.i64.wrap ((IntKind.i64.wrap (1 - x1.exp)) - ((itoaS (max x1.mant (IntKind.i64.wrap (0 - x1.mant)))).length : Int))))) ++ (itoaS (max x1.mant (IntKind.i64.wrap (0 - x1.mant))))).length : Int).toNat - (IntKind.i64.wrap ((((repS ([48] : Str) (max 0 (IntKind.i64.wrap ((IntKind.i64.wrap (1 - x1.exp)) - ((itoaS (max x1.mant (IntKind.i64.wrap (0 - x1.mant)))).length : Int))))) ++ (itoaS (max x1.mant (IntKind.i64.wrap (0 - x1.mant))))).length : Int) + x1.exp)).toNat)).length ≤ 9223372036854775807)) (strings_Builder_WriteString_df1e ((((((repS ([48] : Str) (max 0 (IntKind.i64.wrap ((IntKind.i64.wrap (1 - x1.exp)) - ((itoaS (max x1.mant (IntKind.i64.wrap (0 - x1.mant)))).length : Int))))) ++ (itoaS (max x1.mant (IntKind.i64.wrap (0 - x1.mant))))).drop 0).take ((IntKind.i64.wrap ((((repS ([48] : Str) (max 0 (IntKind.i64.wrap ((IntKind.i64.wrap (1 - x1.exp)) - ((itoaS (max x1.mant (IntKind.i64.wrap (0 - x1.mant)))).length : Int))))) ++ (itoaS (max x1.mant (IntKind.i64.wrap (0 - x1.mant))))).length : Int) + x1.exp)).toNat - 0)) ++ ([46] : Str)) ++ ((((repS ([48] : Str) (max 0 (IntKind.i64.wrap ((IntKind.i64.wrap (1 - x1.exp)) - ((itoaS (max x1.mant (IntKind.i64.wrap (0 - x1.mant)))).length : Int))))) ++ (itoaS (max x1.mant (IntKind.i64.wrap (0 - x1.mant))))).drop (IntKind.i64.wrap ((((repS ([48] : Str) (max 0 (IntKind.i64.wrap ((IntKind.i64.wrap (1 - x1.exp)) - ((itoaS (max x1.mant (IntKind.i64.wrap (0 - x1.mant)))).length : Int))))) ++ (itoaS (max x1.mant (IntKind.i64.wrap (0 - x1.mant))))).length : Int) + x1.exp)).toNat).take ((((repS ([48] : Str) (max 0 (IntKind.i64.wrap ((IntKind.i64.wrap (1 - x1.exp)) - ((itoaS (max x1.mant (IntKind.i64.wrap (0 - x1.mant)))).length : Int))))) ++ (itoaS (max x1.mant (IntKind.i64.wrap (0 - x1.mant))))).length : Int).toNat - (IntKind.i64.wrap ((((repS ([48] : Str) (max 0 (IntKind.i64.wrap ((IntKind.i64.wrap (1 - x1.exp)) - ((itoaS (max x1.mant (IntKind.i64.wrap (0 - x1.mant)))).length : Int))))) ++ (itoaS (max x1.mant (IntKind.i64.wrap (0 - x1.mant))))).length : Int) + x1.exp)).toNat))) y3 (fun y6 y7 => k0 (bstr y7))))))))))))) else (bif (decide (x1.exp ≥ (0 : Int))) then (chk (decide (0 ≤ x1.exp) && decide ((([48] : Str).length : Int) * x1.exp ≤ 140737488355328)) (chk (decide ((itoaS (max x1.mant (IntKind.i64.wrap (0 - x1.mant)))).length + (repS ([48] : Str) x1.exp).length ≤ 9223372036854775807)) (strings_Builder_WriteString_fb8e ((itoaS (max x1.mant (IntKind.i64.wrap (0 - x1.mant)))) ++ (repS ([48] : Str) x1.exp)) (fun y8 y9 => k0 (bstr y9))))) else (chk (decide (0 ≤ (max 0 (IntKind.i64.wrap ((IntKind.i64.wrap (1 - x1.exp)) - ((itoaS (max x1.mant (IntKind.i64.wrap (0 - x1.mant)))).length : Int))))) && decide ((([48] : Str).length : Int) * (max 0 (IntKind.i64.wrap ((IntKind.i64.wrap (1 - x1.exp)) - ((itoaS (max x1.mant (IntKind.i64.wrap (0 - x1.mant)))).length : Int)))) ≤ 140737488355328)) (chk (decide ((repS ([48] : Str) (max 0 (IntKind.i64.wrap ((IntKind.i64.wrap (1 - x1.exp)) - ((itoaS (max x1.mant (IntKind.i64.wrap (0 - x1.mant)))).length : Int))))).length + (itoaS (max x1.mant (IntKind.i64.wrap (0 - x1.mant)))).length ≤ 9223372036854775807)) (chk (decide ((0 : Int) ≤ (IntKind.i64.wrap ((((repS ([48] : Str) (max 0 (IntKind.i64.wrap ((IntKind.i64.wrap (1 - x1.exp)) - ((itoaS (max x1.mant (IntKind.i64.wrap (0 - x1.mant)))).length : Int))))) ++ (itoaS (max x1.mant (IntKind.i64.wrap (0 - x1.mant))))).length : Int) + x1.exp))) && decide ((IntKind.i64.wrap ((((repS ([48] : Str) (max 0 (IntKind.i64.wrap ((IntKind.i64.wrap (1 - x1.exp)) - ((itoaS (max x1.mant (IntKind.i64.wrap (0 - x1.mant)))).length : Int))))) ++ (itoaS (max x1.mant (IntKind.i64.wrap (0 - x1.mant))))).length : Int) + x1.exp)) ≤ ((repS ([48] : Str) (max 0 (IntKind.i64.wrap ((IntKind.i64.wrap (1 - x1.exp)) - ((itoaS (max x1.mant (IntKind.i64.wrap (0 - x1.mant)))).length : Int))))) ++ (itoaS (max x1.mant (IntKind.i64.wrap (0 - x1.mant))))).length)) (chk (decide ((0 : Int) ≤ (IntKind.i64.wrap ((((repS ([48] : Str) (max 0 (IntKind.i64.wrap ((IntKind.i64.wrap (1 - x1.exp)) - ((itoaS (max x1.mant (IntKind.i64.wrap (0 - x1.mant)))).length : Int))))) ++ (itoaS (max x1.mant (IntKind.i64.wrap (0 - x1.mant))))).length : Int) + x1.exp)))) (chk (decide (((((repS ([48] : Str) (max 0 (IntKind.i64.wrap ((IntKind.i64.wrap (1 - x1.exp)) - ((itoaS (max x1.mant (IntKind.i64.wrap (0 - x1.mant)))).length : Int))))) ++ (itoaS (max x1.mant (IntKind.i64.wrap (0 - x1.mant))))).drop 0).take ((IntKind.i64.wrap ((((repS ([48] : Str) (max 0 (IntKind.i64.wrap ((IntKind.i64.wrap (1 - x1.exp)) - ((itoaS (max x1.mant (IntKind.i64.wrap (0 - x1.mant)))).length : Int))))) ++ (itoaS (max x1.mant (IntKind.i64.wrap (0 - x1.mant))))).length : Int) + x1.exp)).toNat - 0)).length + 1 ≤ 9223372036854775807)) (chk (decide ((0 : Int) ≤ (((repS ([48] : Str) (max 0 (IntKind.i64.wrap ((IntKind.i64.wrap (1 - x1.exp)) - ((itoaS (max x1.mant (IntKind.i64.wrap (0 - x1.mant)))).length : Int))))) ++ (itoaS (max x1.mant (IntKind.i64.wrap (0 - x1.mant))))).length : Int)) && decide ((((repS ([48] : Str) (max 0 (IntKind.i64.wrap ((IntKind.i64.wrap (1 - x1.exp)) - ((itoaS (max x1.mant (IntKind.i64.wrap (0 - x1.mant)))).length : Int))))) ++ (itoaS (max x1.mant (IntKind.i64.wrap (0 - x1.mant))))).length : Int) ≤ ((repS ([48] : Str) (max 0 (IntKind.i64.wrap ((IntKind.i64.wrap (1 - x1.exp)) - ((itoaS (max x1.mant (IntKind.i64.wrap (0 - x1.mant)))).length : Int))))) ++ (itoaS (max x1.mant (IntKind.i64.wrap (0 - x1.mant))))).length)) (chk (decide ((0 : Int) ≤ (IntKind.i64.wrap ((((repS ([48] : Str) (max 0 (IntKind.i64.wrap ((IntKind.i64.wrap (1 - x1.exp)) - ((itoaS (max x1.mant (IntKind.i64.wrap (0 - x1.mant)))).length : Int))))) ++ (itoaS (max x1.mant (IntKind.i64.wrap (0 - x1.mant))))).length : Int) + x1.exp))) && decide ((IntKind.i64.wrap ((((repS ([48] : Str) (max 0 (IntKind.i64.wrap ((IntKind.i64.wrap (1 - x1.exp)) - ((itoaS (max x1.mant (IntKind.i64.wrap (0 - x1.mant)))).length : Int))))) ++ (itoaS (max x1.mant (IntKind.i64.wrap (0 - x1.mant))))).length : Int) + x1.exp)) ≤ (((repS ([48] : Str) (max 0 (IntKind.i64.wrap ((IntKind.i64.wrap (1 - x1.exp)) - ((itoaS (max x1.mant (IntKind.i64.wrap (0 - x1.mant)))).length : Int))))) ++ (itoaS (max x1.mant (IntKind.i64.wrap (0 - x1.mant))))).length : Int))) (chk (decide ((((((repS ([48] : Str) (max 0 (IntKind.i64.wrap ((IntKind.i64.wrap (1 - x1.exp)) - ((itoaS (max x1.mant (IntKind.i64.wrap (0 - x1.mant)))).length : Int))))) ++ (itoaS (max x1.mant (IntKind.i64.wrap (0 - x1.mant))))).drop 0).take ((IntKind.i64.wrap ((((repS ([48] : Str) (max 0 (IntKind.i64.wrap ((IntKind.i64.wrap (1 - x1.exp)) - ((itoaS (max x1.mant (IntKind.i64.wrap (0 - x1.mant)))).length : Int))))) ++ (itoaS (max x1.mant (IntKind.i64.wrap (0 - x1.mant))))).length : Int) + x1.exp)).toNat - 0)) ++ ([46] : Str)).length + ((((repS ([48] : Str) (max 0 (IntKind.i64.wrap ((IntKind.i64.wrap (1 - x1.exp)) - ((itoaS (max x1.mant (IntKind.i64.wrap (0 - x1.mant)))).length : Int))))) ++ (itoaS (max x1.mant (IntKind.i64.wrap (0 - x1.mant))))).drop (IntKind.i64.wrap ((((repS ([48] : Str) (max 0 (IntKind.i64.wrap ((IntKind.i64.wrap (1 - x1.exp)) - ((itoaS (max x1.mant (IntKind.i64.wrap (0 - x1.mant)))).length : Int))))) ++ (itoaS (max x1.mant (IntKind.i64.wrap (0 - x1.mant))))).length : Int) + x1.exp)).toNat).take ((((repS ([48] : Str) (max 0 (IntKind.i64.wrap ((IntKind.i64.wrap (1 - x1.exp)) - ((itoaS (max x1.mant (IntKind.i64.wrap (0 - x1.mant)))).length : Int))))) ++ (itoaS (max x1.mant (IntKind.i64.wrap (0 - x1.mant))))).length : Int).toNat - (IntKind.i64.wrap ((((repS ([48] : Str) (max 0 (IntKind.i64.wrap ((IntKind.i64.wrap (1 - x1.exp)) - ((itoaS (max x1.mant (IntKind.i64.wrap (0 - x1.mant)))).length : Int))))) ++ (itoaS (max x1.mant (IntKind.i64.wrap (0 - x1.mant))))).length : Int) + x1.exp)).toNat)).length ≤ 9223372036854775807)) (strings_Builder_WriteString_fb8e ((((((repS ([48] : Str) (max 0 (IntKind.i64.wrap ((IntKind.i64.wrap (1 - x1.exp)) - ((itoaS (max x1.mant (IntKind.i64.wrap (0 - x1.mant)))).length : Int))))) ++ (itoaS (max x1.mant (IntKind.i64.wrap (0 - x1.mant))))).drop 0).take ((IntKind.i64.wrap ((((repS ([48] : Str) (max 0 (IntKind.i64.wrap ((IntKind.i64.wrap (1 - x1.exp)) - ((itoaS (max x1.mant (IntKind.i64.wrap (0 - x1.mant)))).length : Int))))) ++ (itoaS (max x1.mant (IntKind.i64.wrap (0 - x1.mant))))).length : Int) + x1.exp)).toNat - 0)) ++ ([46] : Str)) ++ ((((repS ([48] : Str) (max 0 (IntKind.i64.wrap ((IntKind.i64.wrap (1 - x1.exp)) - ((itoaS (max x1.mant (IntKind.i64.wrap (0 - x1.mant)))).length : Int))))) ++ (itoaS (max x1.mant (IntKind.i64.wrap (0 - x1.mant))))).drop (IntKind.i64.wrap ((((repS ([48] : Str) (max 0 (IntKind.i64.wrap ((IntKind.i64.wrap (1 - x1.exp)) - ((itoaS (max x1.mant (IntKind.i64.wrap (0 - x1.mant)))).length : Int))))) ++ (itoaS (max x1.mant (IntKind.i64.wrap (0 - x1.mant))))).length : Int) + x1.exp)).toNat).take ((((repS ([48] : Str) (max 0 (IntKind.i64.wrap ((IntKind.i64.wrap (1 - x1.exp)) - ((itoaS (max x1.mant (IntKind.i64.wrap (0 - x1.mant)))).length : Int))))) ++ (itoaS (max x1.mant (IntKind.i64.wrap (0 - x1.mant))))).length : Int).toNat - (IntKind.i64.wrap ((((repS ([48] : Str) (max 0 (IntKind.i64.wrap ((IntKind.i64.wrap (1 - x1.exp)) - ((itoaS (max x1.mant (IntKind.i64.wrap (0 - x1.mant)))).length : Int))))) ++ (itoaS (max x1.mant (IntKind.i64.wrap (0 - x1.mant))))).length : Int) + x1.exp)).toNat))) (fun y10 y11 => k0 (bstr y11))))))))))))))
noncomputable def decimal_Print {R : Type} : decimal_Print_ty R := fun x1 k0 => decimal_Print_X decimal_Right strings_Builder_WriteByte_b66c strings_Builder_WriteString_df1e strings_Builder_WriteString_fb8e x1 k0
theorem decimal_Print_ok {R : Type} (decimal_Right : decimal_Right_ty R) (strings_Builder_WriteByte_b66c : strings_Builder_WriteByte_b66c_ty R) (strings_Builder_WriteString_df1e : strings_Builder_WriteString_df1e_ty R) (strings_Builder_WriteString_fb8e : strings_Builder_WriteString_fb8e_ty R) (x1 : Dcm) (k : V → Heap → Option R) : funK tt (decimal_Print_E R decimal_Right strings_Builder_WriteByte_b66c strings_Builder_WriteString_df1e strings_Builder_WriteString_fb8e) (decimal_Print_T R) false Tryd.f28 (codeOf Tryd.f28) [.agg [.int .i64 x1.mant, .int .i64 x1.exp]] [] k =
    decimal_Print_X decimal_Right strings_Builder_WriteByte_b66c strings_Builder_WriteString_df1e strings_Builder_WriteString_fb8e x1 (fun q0 => k (.str q0) []) := by kernel_rfl
theorem decimal_Print_loops (R : Type) : ∀ a ∈ loopsOf (codeOf Tryd.f28), LoopOk tt (decimal_Print_E R decimal_Right strings_Builder_WriteByte_b66c strings_Builder_WriteString_df1e strings_Builder_WriteString_fb8e) (decimal_Print_T R) 0 a := by
  refine loops_ok 0 (by kernel_rfl) fun i hi => ?_
  omega
theorem decimal_Print_S_ok (R : Type) (other : Yard.Spec R) (ho : Yard.Spec.Ok Tryd.prog 28 other) : Yard.Spec.Ok Tryd.prog 28 (specBy decimal_Print_p decimal_Print_q (decimal_Print_rr decimal_Print) other) :=
  specBy_ok ho (funK_sound TT mixed (decimal_Print_EOk R) (keep := false) rfl rfl rfl rfl 0 (decimal_Print_loops R)) fun (x : Pat.dens decimal_Print_p) (y : HPat.dens decimal_Print_q) k => decimal_Print_ok decimal_Right strings_Builder_WriteByte_b66c strings_Builder_WriteString_df1e strings_Builder_WriteString_fb8e (⟨x.1.1, x.1.2.1⟩ : Dcm) k

/-! ### humpyard/humpyardlaw01.awake -/
abbrev law01_awake_ty (R : Type) : Type := (Bool → Option R) → Option R
abbrev law01_awake_p : List Pat := []
abbrev law01_awake_q : List HPat := []
noncomputable def law01_awake_rr {R : Type} (fn : law01_awake_ty R) : Pat.dens law01_awake_p → HPat.dens law01_awake_q → (V → Heap → Option R) → Option R := fun x y k => fn (fun q0 => k (.bool q0) [])
noncomputable def law01_awake_E (R : Type) (decimal_Print : decimal_Print_ty R) (decimal_Parse : decimal_Parse_ty R) (decimal_Right : decimal_Right_ty R) (decimal_Make : decimal_Make_ty R) (decimal_Int : decimal_Int_ty R) : Env R := fun i => match i with
  | 28 => some (true, (specBy decimal_Print_p decimal_Print_q (decimal_Print_rr decimal_Print) specNo))
  | 29 => some (true, (specBy decimal_Parse_p decimal_Parse_q (decimal_Parse_rr decimal_Parse) specNo))
  | 30 => some (true, (specBy decimal_Right_p decimal_Right_q (decimal_Right_rr decimal_Right) specNo))
  | 32 => some (true, (specBy decimal_Make_p decimal_Make_q (decimal_Make_rr decimal_Make) specNo))
  | 39 => some (true, (specBy decimal_Int_p decimal_Int_q (decimal_Int_rr decimal_Int) specNo))
  | _ => none
theorem law01_awake_EOk (R : Type) : EOk Tryd.prog (law01_awake_E R decimal_Print decimal_Parse decimal_Right decimal_Make decimal_Int) := by
  intro i b sp h
  unfold law01_awake_E at h
  split at h
  · cases h; exact ⟨(decimal_Print_S_ok R _ (specNo_ok _)), fun h => nomatch h⟩
  · cases h; exact ⟨(decimal_Parse_S_ok R _ (specNo_ok _)), fun h => nomatch h⟩
  · cases h; exact ⟨(decimal_Right_S_ok R _ (specNo_ok _)), fun h => nomatch h⟩
  · cases h; exact ⟨(decimal_Make_S_ok R _ (specNo_ok _)), fun h => nomatch h⟩
  · cases h; exact ⟨(decimal_Int_S_ok R _ (specNo_ok _)), fun h => nomatch h⟩
  · cases h

noncomputable def law01_awake_T (R : Type) : Nat → Option (Hint × LSpec R) := fun i => match i with
  | _ => none

noncomputable def law01_awake_X {R : Type} (decimal_Print : decimal_Print_ty R) (decimal_Parse : decimal_Parse_ty R) (decimal_Right : decimal_Right_ty R) (decimal_Make : decimal_Make_ty R) (decimal_Int : decimal_Int_ty R) (k0 : Bool → Option R) : Option R :=
  decimal_Parse ([45, 49, 46, 53, 48, 101, 49] : Str) (fun y1 y2 => decimal_Make 1200 (-1) (fun y3 y4 => decimal_Int y1 (fun y5 y6 => bif y2 then (bif (y1.mant == (-15) && (y1.exp == 0 && true)) then (bif y4 then (bif (y3.mant == 12 && (y3.exp == 1 && true)) then (decimal_Print (⟨25, (-3)⟩ : Dcm) (fun y7 => bif (y7 == ([48, 46, 48, 50, 53] : Str)) then (bif (y5 == (-15)) then (bif y6 then (decimal_Right y1 (fun y8 => k0 y8)) else (k0 false)) else (k0 false)) else (k0 false))) else (k0 false)) else (k0 false)) else (k0 false)) else (k0 false))))
noncomputable def law01_awake {R : Type} : law01_awake_ty R := fun  k0 => law01_awake_X decimal_Print decimal_Parse decimal_Right decimal_Make decimal_Int  k0
theorem law01_awake_ok {R : Type} (decimal_Print : decimal_Print_ty R) (decimal_Parse : decimal_Parse_ty R) (decimal_Right : decimal_Right_ty R) (decimal_Make : decimal_Make_ty R) (decimal_Int : decimal_Int_ty R) (k : V → Heap → Option R) : funK tt (law01_awake_E R decimal_Print decimal_Parse decimal_Right decimal_Make decimal_Int) (law01_awake_T R) false Tryd.f26 (codeOf Tryd.f26) [] [] k =
    law01_awake_X decimal_Print decimal_Parse decimal_Right decimal_Make decimal_Int  (fun q0 => k (.bool q0) []) := by kernel_rfl
theorem law01_awake_loops (R : Type) : ∀ a ∈ loopsOf (codeOf Tryd.f26), LoopOk tt (law01_awake_E R decimal_Print decimal_Parse decimal_Right decimal_Make decimal_Int) (law01_awake_T R) 0 a := by
  refine loops_ok 0 (by kernel_rfl) fun i hi => ?_
  omega
theorem law01_awake_S_ok (R : Type) (other : Yard.Spec R) (ho : Yard.Spec.Ok Tryd.prog 26 other) : Yard.Spec.Ok Tryd.prog 26 (specBy law01_awake_p law01_awake_q (law01_awake_rr law01_awake) other) :=
  specBy_ok ho (funK_sound TT mixed (law01_awake_EOk R) (keep := false) rfl rfl rfl rfl 0 (law01_awake_loops R)) fun (x : Pat.dens law01_awake_p) (y : HPat.dens law01_awake_q) k => law01_awake_ok decimal_Print decimal_Parse decimal_Right decimal_Make decimal_Int  k

end Go.Proofs.YtifgegmnngfckaaDoor

/-
  The first calls of the laws of quote and decimal, run. Own work.
-/
set_option maxRecDepth 100000
namespace Go.Proofs.YtifgegmnngfckaaDoor
open Go Go.Yard
theorem awake02 {R : Type} (k : Bool → Option R) : law02_awake k = k true := by kernel_rfl
theorem awake01 {R : Type} (k : Bool → Option R) : law01_awake k = k true := by kernel_rfl
end Go.Proofs.YtifgegmnngfckaaDoor

/-
  UTF-8 on lists: encodings, what decodes, what is whole. Own work.
-/
set_option maxRecDepth 100000
namespace Go.Yard
open Go.Lib

/-- A rune that may be. -/
def vr (c : Nat) : Prop := c < 55296 ∨ (57344 ≤ c ∧ c ≤ 1114111)
instance (c : Nat) : Decidable (vr c) := inferInstanceAs (Decidable (_ ∨ _))

def enc (c : Nat) : Str := encodeRune (c : Int)

theorem enc1 {c : Nat} (h : c < 128) : enc c = [UInt8.ofNat c] := by
  unfold enc encodeRune encodeRuneZ
  rw [if_pos (by omega)]
  rfl
theorem enc2 {c : Nat} (h0 : 128 ≤ c) (h : c < 2048) : enc c = [UInt8.ofNat (192 + c / 64), UInt8.ofNat (128 + c % 64)] := by
  unfold enc encodeRune encodeRuneZ
  rw [if_neg (by omega), if_pos (by omega)]
  have e1 : (192 + (c : Int) / 64).toNat = 192 + c / 64 := by omega
  have e2 : (128 + (c : Int) % 64).toNat = 128 + c % 64 := by omega
  simp only [List.map_cons, List.map_nil, e1, e2]
theorem enc3 {c : Nat} (h0 : 2048 ≤ c) (h : c < 65536) (hv : vr c) : enc c = [UInt8.ofNat (224 + c / 4096), UInt8.ofNat (128 + c / 64 % 64), UInt8.ofNat (128 + c % 64)] := by
  unfold vr at hv
  unfold enc encodeRune encodeRuneZ
  rw [if_neg (by omega), if_neg (by omega), if_pos (by omega)]
  have e1 : (224 + (c : Int) / 4096).toNat = 224 + c / 4096 := by omega
  have e2 : (128 + (c : Int) / 64 % 64).toNat = 128 + c / 64 % 64 := by omega
  have e3 : (128 + (c : Int) % 64).toNat = 128 + c % 64 := by omega
  simp only [List.map_cons, List.map_nil, e1, e2, e3]
theorem enc4 {c : Nat} (h0 : 65536 ≤ c) (h : c < 1114112) : enc c = [UInt8.ofNat (240 + c / 262144), UInt8.ofNat (128 + c / 4096 % 64), UInt8.ofNat (128 + c / 64 % 64), UInt8.ofNat (128 + c % 64)] := by
  unfold enc encodeRune encodeRuneZ
  rw [if_neg (by omega), if_neg (by omega), if_neg (by omega), if_pos (by omega)]
  have e1 : (240 + (c : Int) / 262144).toNat = 240 + c / 262144 := by omega
  have e2 : (128 + (c : Int) / 4096 % 64).toNat = 128 + c / 4096 % 64 := by omega
  have e3 : (128 + (c : Int) / 64 % 64).toNat = 128 + c / 64 % 64 := by omega
  have e4 : (128 + (c : Int) % 64).toNat = 128 + c % 64 := by omega
  simp only [List.map_cons, List.map_nil, e1, e2, e3, e4]

theorem u8_nat (n : Nat) (h : n < 256) : (UInt8.ofNat n).toNat = n := by
  simp only [UInt8.toNat_ofNat']
  omega

theorem vr_lt {c : Nat} (h : vr c) : c < 1114112 := by unfold vr at h; omega
theorem enc_cases {c : Nat} (hv : vr c) : (c < 128 ∧ enc c = [UInt8.ofNat c]) ∨ (128 ≤ c ∧ c < 2048 ∧ enc c = [UInt8.ofNat (192 + c / 64), UInt8.ofNat (128 + c % 64)]) ∨
    (2048 ≤ c ∧ c < 65536 ∧ enc c = [UInt8.ofNat (224 + c / 4096), UInt8.ofNat (128 + c / 64 % 64), UInt8.ofNat (128 + c % 64)]) ∨
    (65536 ≤ c ∧ enc c = [UInt8.ofNat (240 + c / 262144), UInt8.ofNat (128 + c / 4096 % 64), UInt8.ofNat (128 + c / 64 % 64), UInt8.ofNat (128 + c % 64)]) := by
  have := vr_lt hv
  by_cases h1 : c < 128
  · exact .inl ⟨h1, enc1 h1⟩
  by_cases h2 : c < 2048
  · exact .inr (.inl ⟨by omega, h2, enc2 (by omega) h2⟩)
  by_cases h3 : c < 65536
  · exact .inr (.inr (.inl ⟨by omega, h3, enc3 (by omega) h3 hv⟩))
  · exact .inr (.inr (.inr ⟨by omega, enc4 (by omega) this⟩))

theorem enc_len {c : Nat} (hv : vr c) : 1 ≤ (enc c).length ∧ (enc c).length ≤ 4 := by
  rcases enc_cases hv with ⟨_, e⟩ | ⟨_, _, e⟩ | ⟨_, _, e⟩ | ⟨_, e⟩ <;> rw [e] <;> simp

/-- AN ENCODING DECODES, whatever stands behind. -/
theorem dec_enc {c : Nat} (hv : vr c) (t : Str) : decodeL (enc c ++ t) = (c, (enc c).length) := by
  have hlt := vr_lt hv
  unfold vr at hv
  rw [decodeL_N]
  rcases enc_cases hv with ⟨h1, e⟩ | ⟨h0, h1, e⟩ | ⟨h0, h1, e⟩ | ⟨h0, e⟩ <;> rw [e]
  · simp only [List.cons_append, List.getD_cons_zero, u8_nat c (by omega)]
    exact decodeN_ascii _ _ _ _ _ h1
  · simp only [List.cons_append, List.nil_append, List.getD_cons_zero, List.getD_cons_succ, u8_nat (192 + c / 64) (by omega), u8_nat (128 + c % 64) (by omega), List.length_cons]
    unfold decodeN
    rw [if_neg (by omega), if_pos ⟨by omega, by omega, by omega⟩, if_pos (by omega)]
    refine Prod.ext ?_ rfl
    show (192 + c / 64) % 32 * 64 + (128 + c % 64) % 64 = c
    omega
  · simp only [List.cons_append, List.nil_append, List.getD_cons_zero, List.getD_cons_succ, u8_nat (224 + c / 4096) (by omega), u8_nat (128 + c / 64 % 64) (by omega), u8_nat (128 + c % 64) (by omega), List.length_cons]
    unfold decodeN
    have k : (224 + c / 4096) % 16 * 4096 + (128 + c / 64 % 64) % 64 * 64 + (128 + c % 64) % 64 = c := by omega
    rw [if_neg (by omega), if_neg (by omega), if_pos ⟨by omega, ⟨by omega, by omega⟩, by omega, by omega⟩, k, if_pos (by omega)]
    simp only [List.length_nil]
  · simp only [List.cons_append, List.nil_append, List.getD_cons_zero, List.getD_cons_succ, u8_nat (240 + c / 262144) (by omega), u8_nat (128 + c / 4096 % 64) (by omega), u8_nat (128 + c / 64 % 64) (by omega), u8_nat (128 + c % 64) (by omega), List.length_cons]
    unfold decodeN
    have k : (240 + c / 262144) % 8 * 262144 + (128 + c / 4096 % 64) % 64 * 4096 + (128 + c / 64 % 64) % 64 * 64 + (128 + c % 64) % 64 = c := by omega
    rw [if_neg (by omega), if_neg (by omega), if_neg (by omega), if_pos ⟨by omega, ⟨by omega, by omega⟩, ⟨by omega, by omega⟩, by omega, by omega⟩, k, if_pos (by omega)]
    simp only [List.length_nil]

/-- A step of the decoder that finds a rune. -/
def good (l : Str) : Prop := ¬ ((decodeL l).1 = 65533 ∧ (decodeL l).2 = 1)
instance (l : Str) : Decidable (good l) := inferInstanceAs (Decidable (¬ _))

theorem good_enc {c : Nat} (hv : vr c) (t : Str) : good (enc c ++ t) := by
  unfold good
  rw [dec_enc hv t]
  rintro ⟨h1, h2⟩
  simp only at h1 h2
  rw [h1] at h2
  rw [enc3 (by omega) (by omega) (by unfold vr; omega)] at h2
  cases h2

theorem decodeN_vr (n b0 b1 b2 b3 : Nat) (h0 : b0 < 256) : vr (decodeN n b0 b1 b2 b3).1 := by
  unfold vr decodeN
  repeat' split
  all_goals simp only
  all_goals omega

theorem dec_vr (l : Str) : vr (decodeL l).1 := by
  rw [decodeL_N]
  exact decodeN_vr _ _ _ _ _ (UInt8.toNat_lt _)

/-- WHAT DECODES IS AN ENCODING. -/
theorem dec_good {l : Str} (hne : l ≠ []) (h : good l) : l = enc (decodeL l).1 ++ l.drop (decodeL l).2 ∧ (enc (decodeL l).1).length = (decodeL l).2 := by
  have h1 := encode_decode l hne h
  have h2 := decodeL_le l hne
  refine ⟨?_, ?_⟩
  · unfold enc
    rw [h1, List.take_append_drop]
  · unfold enc
    rw [h1, List.length_take]
    omega

theorem validS_nil : validS [] = true := rfl
theorem validS_step {l : Str} (hne : l ≠ []) : validS l = if good l then validS (l.drop (decodeL l).2) else false := by
  unfold validS
  rw [validD_step l hne]
  by_cases h : good l
  · rw [if_pos h, if_neg (show ¬ ((decodeL l).1 = 65533 ∧ (decodeL l).2 = 1) from h)]
  · rw [if_neg h, if_pos (Decidable.not_not.1 h)]

theorem enc_ne {c : Nat} (hv : vr c) (t : Str) : enc c ++ t ≠ [] := by
  have := enc_len hv
  intro e
  have := congrArg List.length e
  rw [List.length_append, List.length_nil] at this
  omega

theorem validS_enc {c : Nat} (hv : vr c) (t : Str) : validS (enc c ++ t) = validS t := by
  rw [validS_step (enc_ne hv t), if_pos (good_enc hv t), dec_enc hv t]
  simp

/-- The text of runes. -/
def encL (rs : List Nat) : Str := rs.flatMap enc

theorem validS_encL : ∀ (rs : List Nat), (∀ c ∈ rs, vr c) → ∀ t, validS (encL rs ++ t) = validS t
  | [], _, t => rfl
  | c :: rs, h, t => by
    have : encL (c :: rs) ++ t = enc c ++ (encL rs ++ t) := by simp [encL]
    rw [this, validS_enc (h c (by simp)), validS_encL rs (fun x hx => h x (by simp [hx]))]

/-- WHAT IS WHOLE IS A TEXT OF RUNES. -/
theorem whole_runes : ∀ (n : Nat) (l : Str), l.length ≤ n → validS l = true → ∃ rs : List Nat, (∀ c ∈ rs, vr c) ∧ l = encL rs
  | 0, l, hl, _ => ⟨[], by simp, List.eq_nil_of_length_eq_zero (by omega)⟩
  | n + 1, l, hl, h => by
    by_cases hne : l = []
    · exact ⟨[], by simp, hne⟩
    rw [validS_step hne] at h
    split at h
    · rename_i hg
      obtain ⟨h1, h2⟩ := dec_good hne hg
      have h3 := enc_len (dec_vr l)
      obtain ⟨rs, hr, e⟩ := whole_runes n (l.drop (decodeL l).2) (by rw [List.length_drop]; omega) h
      refine ⟨(decodeL l).1 :: rs, ?_, ?_⟩
      · intro c hc
        rcases List.mem_cons.1 hc with rfl | hc
        · exact dec_vr l
        · exact hr c hc
      · exact h1.trans ((congrArg (enc (decodeL l).1 ++ ·) e).trans (by simp [encL]))
    · cases h

theorem whole_iff {l : Str} : validS l = true ↔ ∃ rs : List Nat, (∀ c ∈ rs, vr c) ∧ l = encL rs := by
  refine ⟨whole_runes l.length l (Nat.le_refl _), ?_⟩
  rintro ⟨rs, hr, rfl⟩
  have := validS_encL rs hr []
  rw [List.append_nil] at this
  rw [this]; rfl

theorem validS_app {w : Str} (hw : validS w = true) (s : Str) : validS (w ++ s) = validS s := by
  obtain ⟨rs, hr, rfl⟩ := whole_iff.1 hw
  exact validS_encL rs hr s

theorem getD_app_lt {s t : Str} {i : Nat} (h : i < s.length) : (s ++ t).getD i 0 = s.getD i 0 := by
  simp [List.getD, List.getElem?_append_left h]
theorem getD_app_at {s t : Str} {x : UInt8} : (s ++ x :: t).getD s.length 0 = x := by
  simp [List.getD]

/-- A byte that continues nothing ends what stands ahead of it. -/
theorem dec_stop {s : Str} (hne : s ≠ []) {x : UInt8} (hx : x.toNat / 64 ≠ 2) (t : Str) : decodeL (s ++ x :: t) = decodeL s := by
  have hl : 0 < s.length := List.length_pos_iff.2 hne
  rw [decodeL_N, decodeL_N, getD_app_lt hl]
  have hn : (s ++ x :: t).length = s.length + 1 + t.length := by simp; omega
  rw [hn]
  by_cases h4 : 4 ≤ s.length
  · rw [getD_app_lt (by omega), getD_app_lt (by omega), getD_app_lt (by omega)]
    unfold decodeN
    simp only [show (1 < s.length + 1 + t.length) = True from eq_true (by omega), show (2 < s.length + 1 + t.length) = True from eq_true (by omega), show (3 < s.length + 1 + t.length) = True from eq_true (by omega),
      show (1 < s.length) = True from eq_true (by omega), show (2 < s.length) = True from eq_true (by omega), show (3 < s.length) = True from eq_true (by omega)]
  · have hcase : s.length = 1 ∨ s.length = 2 ∨ s.length = 3 := by omega
    have hat := getD_app_at (s := s) (t := t) (x := x)
    rcases hcase with h | h | h
    · rw [h] at hat ⊢
      rw [hat]
      generalize (s.getD 0 0).toNat = a0, (s.getD 1 0).toNat = a1, (s.getD 2 0).toNat = a2, (s.getD 3 0).toNat = a3, ((s ++ x :: t).getD 2 0).toNat = c2, ((s ++ x :: t).getD 3 0).toNat = c3
      unfold decodeN
      rw [if_neg (c := a0 / 32 = 6 ∧ (1 < 1 + 1 + t.length ∧ x.toNat / 64 = 2)) (by omega), if_neg (c := a0 / 16 = 14 ∧ (1 < 1 + 1 + t.length ∧ x.toNat / 64 = 2) ∧ (2 < 1 + 1 + t.length ∧ c2 / 64 = 2)) (by omega),
        if_neg (c := a0 / 8 = 30 ∧ (1 < 1 + 1 + t.length ∧ x.toNat / 64 = 2) ∧ (2 < 1 + 1 + t.length ∧ c2 / 64 = 2) ∧ (3 < 1 + 1 + t.length ∧ c3 / 64 = 2)) (by omega),
        if_neg (c := a0 / 32 = 6 ∧ (1 < 1 ∧ a1 / 64 = 2)) (by omega), if_neg (c := a0 / 16 = 14 ∧ (1 < 1 ∧ a1 / 64 = 2) ∧ (2 < 1 ∧ a2 / 64 = 2)) (by omega),
        if_neg (c := a0 / 8 = 30 ∧ (1 < 1 ∧ a1 / 64 = 2) ∧ (2 < 1 ∧ a2 / 64 = 2) ∧ (3 < 1 ∧ a3 / 64 = 2)) (by omega)]
    · rw [h] at hat ⊢
      rw [hat, getD_app_lt (by omega)]
      generalize (s.getD 0 0).toNat = a0, (s.getD 1 0).toNat = a1, (s.getD 2 0).toNat = a2, (s.getD 3 0).toNat = a3, ((s ++ x :: t).getD 3 0).toNat = c3
      unfold decodeN
      rw [if_neg (c := a0 / 16 = 14 ∧ (1 < 2 + 1 + t.length ∧ a1 / 64 = 2) ∧ (2 < 2 + 1 + t.length ∧ x.toNat / 64 = 2)) (by omega),
        if_neg (c := a0 / 8 = 30 ∧ (1 < 2 + 1 + t.length ∧ a1 / 64 = 2) ∧ (2 < 2 + 1 + t.length ∧ x.toNat / 64 = 2) ∧ (3 < 2 + 1 + t.length ∧ c3 / 64 = 2)) (by omega),
        if_neg (c := a0 / 16 = 14 ∧ (1 < 2 ∧ a1 / 64 = 2) ∧ (2 < 2 ∧ a2 / 64 = 2)) (by omega),
        if_neg (c := a0 / 8 = 30 ∧ (1 < 2 ∧ a1 / 64 = 2) ∧ (2 < 2 ∧ a2 / 64 = 2) ∧ (3 < 2 ∧ a3 / 64 = 2)) (by omega)]
      simp only [show (1 < 2 + 1 + t.length) = True from eq_true (by omega), show (1 < 2) = True from eq_true (by omega)]
    · rw [h] at hat ⊢
      rw [hat, getD_app_lt (by omega), getD_app_lt (by omega)]
      generalize (s.getD 0 0).toNat = a0, (s.getD 1 0).toNat = a1, (s.getD 2 0).toNat = a2, (s.getD 3 0).toNat = a3
      unfold decodeN
      rw [if_neg (c := a0 / 8 = 30 ∧ (1 < 3 + 1 + t.length ∧ a1 / 64 = 2) ∧ (2 < 3 + 1 + t.length ∧ a2 / 64 = 2) ∧ (3 < 3 + 1 + t.length ∧ x.toNat / 64 = 2)) (by omega),
        if_neg (c := a0 / 8 = 30 ∧ (1 < 3 ∧ a1 / 64 = 2) ∧ (2 < 3 ∧ a2 / 64 = 2) ∧ (3 < 3 ∧ a3 / 64 = 2)) (by omega)]
      simp only [show (1 < 3 + 1 + t.length) = True from eq_true (by omega), show (2 < 3 + 1 + t.length) = True from eq_true (by omega), show (1 < 3) = True from eq_true (by omega), show (2 < 3) = True from eq_true (by omega)]

theorem validS_mid {x : UInt8} (hx : x.toNat < 128) (t : Str) : ∀ (n : Nat) (s : Str), s.length ≤ n → validS (s ++ x :: t) = (validS s && validS t)
  | n, [], _ => by
    unfold validS
    rw [List.nil_append, validD_cons x t hx]
    simp [validD_nil]
  | 0, b :: s, hl => by simp at hl
  | n + 1, b :: s, hl => by
    have hne : b :: s ≠ [] := by simp
    rw [validS_step (l := b :: s ++ x :: t) (by simp), validS_step hne]
    have hd := dec_stop hne (x := x) (by omega) t
    have hg : good (b :: s ++ x :: t) ↔ good (b :: s) := by unfold good; rw [hd]
    by_cases h : good (b :: s)
    · rw [if_pos (hg.2 h), if_pos h, hd]
      have h2 := decodeL_le _ hne
      have h3 := decodeL_width (b :: s)
      rw [List.drop_append_of_le_length h2]
      exact validS_mid hx t n _ (by rw [List.length_drop]; simp only [List.length_cons] at hl ⊢; omega)
    · rw [if_neg (fun g => h (hg.1 g)), if_neg h]
      rfl
end Go.Yard

/-
  Plain lemmas for printed functions. Own work.
-/
namespace Go.Yard

theorem chk_pos {R : Type} {b : Bool} {k : Option R} (h : b = true) : chk b k = k := by subst h; rfl

theorem wrap_id {n : Int} (h1 : -9223372036854775808 ≤ n) (h2 : n ≤ 9223372036854775807) : IntKind.i64.wrap n = n := by
  simp only [IntKind.wrap, IntKind.bits, IntKind.signed, IntKind.min, IntKind.max]
  simp
  omega

theorem Json.eta (x : Json) : (⟨x.kind, ⟨x.num.mant, x.num.exp⟩, x.text, x.names, x.items⟩ : Json) = x := by cases x; rfl
theorem Raw.eta (x : Raw) : (⟨x.kind, x.mant, x.exp, x.text, x.items⟩ : Raw) = x := by cases x; rfl

theorem getD_at {α : Type} {l : List α} {i : Nat} (h : i < l.length) (d : α) : l.getD i d = l[i] := by simp [List.getD, h]
end Go.Yard

/-
  Text: of raw numbers a text of runes. Own work.
-/
set_option linter.unusedVariables false
set_option maxRecDepth 100000
namespace Go.Proofs.YtifgegmnngfckaaDoor
open Go Go.Yard

def I64 (n : Int) : Prop := -9223372036854775808 ≤ n ∧ n ≤ 9223372036854775807
theorem i64_has {n : Int} : IntKind.i64.has n ↔ I64 n := by
  unfold IntKind.has I64
  simp only [IntKind.min, IntKind.max, IntKind.bits, IntKind.signed]
  simp

theorem pick_raw {R : Type} (c n : Int) (hc : I64 c) (h0 : 0 < n) (hn : n ≤ 9223372036854775807) : ∃ r : Int, 0 ≤ r ∧ r < n ∧ ∀ k : Int → Option R,
    (bif (decide (c < (0 : Int))) then (chk (!decide (n = 0)) (k (Int.tmod (IntKind.i64.wrap (0 - (IntKind.i64.wrap (c + 1)))) n))) else (chk (!decide (n = 0)) (k (Int.tmod c n)))) = k r := by
  obtain ⟨h1, h2⟩ := hc
  have hz : (!decide (n = 0)) = true := by simp; omega
  by_cases h : c < 0
  · refine ⟨Int.tmod (0 - (c + 1)) n, Int.tmod_nonneg _ (by omega), Int.tmod_lt_of_pos _ h0, fun k => ?_⟩
    have hd : decide (c < (0 : Int)) = true := by simpa using h
    rw [hd, cond_true, chk_pos hz, wrap_id (n := c + 1) (by omega) (by omega), wrap_id (by omega) (by omega)]
  · refine ⟨Int.tmod c n, Int.tmod_nonneg _ (by omega), Int.tmod_lt_of_pos _ h0, fun k => ?_⟩
    have hd : decide (c < (0 : Int)) = false := by simpa using h
    rw [hd, cond_false, chk_pos hz]

theorem pick02 {R : Type} (c n : Int) (hc : I64 c) (h0 : 0 < n) (hn : n ≤ 9223372036854775807) : ∃ r : Int, 0 ≤ r ∧ r < n ∧ ∀ k : Int → Option R, law02_pick c n k = k r := pick_raw c n hc h0 hn

theorem wrap32_id {n : Int} (h1 : 0 ≤ n) (h2 : n < 1114112) : IntKind.i32.wrap n = n := by
  simp only [IntKind.wrap, IntKind.bits, IntKind.signed, IntKind.min, IntKind.max]
  simp
  omega

theorem encode_enc {c : Nat} (hv : vr c) : (Utf8.encode (c : Int)).data.toList = enc c := by
  have hlt := vr_lt hv
  have hval : Utf8.valid (c : Int) = true := by
    unfold vr at hv
    simp only [Utf8.valid, Bool.or_eq_true, Bool.and_eq_true, decide_eq_true_eq]
    omega
  unfold Utf8.encode
  simp only [hval, if_true, Int.toNat_natCast]
  by_cases h1 : c < 128
  · rw [if_pos h1, enc1 h1]
  by_cases h2 : c < 2048
  · rw [if_neg h1, if_pos h2, enc2 (by omega) h2]
  by_cases h3 : c < 65536
  · rw [if_neg h1, if_neg h2, if_pos h3, enc3 (by omega) h3 hv]
  · rw [if_neg h1, if_neg h2, if_neg h3, enc4 (by omega) hlt]

theorem runesB_enc {c : Nat} (hv : vr c) : runesB [(c : Int)] = enc c := by
  unfold runesB
  simp only [List.flatMap_cons, List.flatMap_nil, List.append_nil]
  exact encode_enc hv

theorem encL_snoc (rs : List Nat) (c : Nat) : encL (rs ++ [c]) = encL rs ++ enc c := by simp [encL]

theorem dtrue {p : Prop} [Decidable p] (h : p) : decide p = true := decide_eq_true h
theorem dfalse {p : Prop} [Decidable p] (h : ¬ p) : decide p = false := decide_eq_false h

/-- The rune of a raw value. -/
def runeOf (z : Int) : Nat := if 55296 ≤ z ∧ z ≤ 57343 then 120 else z.toNat
theorem runeOf_vr {z : Int} (h0 : 0 ≤ z) (h1 : z < 1114112) : vr (runeOf z) := by unfold runeOf vr; split <;> omega

theorem text_add {R : Type} (raw : List Int) (s : Str) (i : Nat) (rec' : List Int → Str → Int → Option R) {z : Int} (h0 : 0 ≤ z) (h1 : z < 1114112) (hl : s.length ≤ 4 * i) (hi : i < 200) :
    (bif (decide (z ≥ (55296 : Int))) then (bif (decide (z ≤ (57343 : Int))) then (chk (decide (s.length + (runesB ([120] : List Int)).length ≤ 9223372036854775807)) (rec' raw (s ++ (runesB ([120] : List Int))) (IntKind.i64.wrap ((i : Int) + 1)))) else (chk (decide (s.length + (runesB ([(IntKind.i32.wrap z)] : List Int)).length ≤ 9223372036854775807)) (rec' raw (s ++ (runesB ([(IntKind.i32.wrap z)] : List Int))) (IntKind.i64.wrap ((i : Int) + 1))))) else (chk (decide (s.length + (runesB ([(IntKind.i32.wrap z)] : List Int)).length ≤ 9223372036854775807)) (rec' raw (s ++ (runesB ([(IntKind.i32.wrap z)] : List Int))) (IntKind.i64.wrap ((i : Int) + 1))))) =
      rec' raw (s ++ enc (runeOf z)) ((i + 1 : Nat) : Int) := by
  have hw : IntKind.i64.wrap ((i : Int) + 1) = ((i + 1 : Nat) : Int) := by rw [wrap_id (by omega) (by omega)]; omega
  have hv := runeOf_vr h0 h1
  have hle := enc_len hv
  by_cases hb : 55296 ≤ z ∧ z ≤ 57343
  · have e : runesB [120] = enc (runeOf z) := by unfold runeOf at hv ⊢; rw [if_pos hb] at hv ⊢; exact runesB_enc hv
    rw [dtrue (show z ≥ 55296 from hb.1), cond_true, dtrue hb.2, cond_true, e, chk_pos (dtrue (by omega)), hw]
  · have e : runesB [IntKind.i32.wrap z] = enc (runeOf z) := by
      unfold runeOf at hv ⊢; rw [if_neg hb] at hv ⊢
      rw [← runesB_enc hv, wrap32_id h0 h1, Int.toNat_of_nonneg h0]
    by_cases hc : z ≥ 55296
    · rw [dtrue hc, cond_true, dfalse (show ¬ z ≤ 57343 by omega), cond_false, e, chk_pos (dtrue (by omega)), hw]
    · rw [dfalse hc, cond_false, e, chk_pos (dtrue (by omega)), hw]

theorem tdiv_i64 {n k : Int} (h : I64 n) (hk : 1 < k) : I64 (Int.tdiv n k) := by
  have h1 : (Int.tdiv n k).natAbs ≤ n.natAbs := by rw [Int.natAbs_tdiv]; exact Nat.div_le_self _ _
  have h2 : (Int.tdiv n k).natAbs = n.natAbs / k.natAbs := Int.natAbs_tdiv _ _
  unfold I64 at h ⊢
  have h3 : n.natAbs / k.natAbs ≤ n.natAbs / 2 := Nat.div_le_div_left (by omega) (by omega)
  omega

theorem text_loop {R : Type} (raw : List Int) (hraw : ∀ x ∈ raw, I64 x) : ∀ (n i : Nat) (rs : List Nat), i ≤ raw.length → raw.length - i < n → i ≤ 200 → (∀ c ∈ rs, vr c) → (encL rs).length ≤ 4 * i →
    ∃ rs' : List Nat, (∀ c ∈ rs', vr c) ∧ (encL rs').length ≤ 800 ∧ ∀ e0 : Str → Option R, law02_Text_3_0_L n raw (encL rs) (i : Int) e0 = e0 (encL rs') := by
  intro n
  induction n with
  | zero => intro i rs h1 h2; omega
  | succ n ih =>
    intro i rs h1 h2 h3 hrs hl
    by_cases hi : i < raw.length
    · by_cases hi2 : i < 200
      · have hx : I64 raw[i] := hraw _ (List.getElem_mem hi)
        have hget : raw.getD (i : Int).toNat (Ty.dflt (.int .i64)) = raw[i] := by simp [List.getD, hi]; rfl
        have key : ∀ z : Int, 0 ≤ z → z < 1114112 → ∃ rs' : List Nat, (∀ c ∈ rs', vr c) ∧ (encL rs').length ≤ 800 ∧ ∀ e0 : Str → Option R, law02_Text_3_0_L n raw (encL rs ++ enc (runeOf z)) ((i + 1 : Nat) : Int) e0 = e0 (encL rs') := by
          intro z z0 z1
          have hv := runeOf_vr z0 z1
          have hle := enc_len hv
          obtain ⟨rs', q1, q2, q3⟩ := ih (i + 1) (rs ++ [runeOf z]) (by omega) (by omega) (by omega) (by
            intro c hc
            rcases List.mem_append.1 hc with hc | hc
            · exact hrs c hc
            · simp at hc; subst hc; exact hv) (by rw [encL_snoc, List.length_append]; omega)
          exact ⟨rs', q1, q2, fun e0 => by rw [← q3 e0, encL_snoc]⟩
        -- what is picked
        obtain ⟨y6, y60, y61, py⟩ := pick02 (R := R) raw[i] 5 hx (by omega) (by omega)
        have ht : I64 (IntKind.i64.wrap (Int.tdiv raw[i] 5)) := by
          have := tdiv_i64 (k := 5) hx (by omega)
          rw [wrap_id this.1 this.2]; exact this
        obtain ⟨a, a0, a1, pa⟩ := pick02 (R := R) (IntKind.i64.wrap (Int.tdiv raw[i] 5)) 128 ht (by omega) (by omega)
        obtain ⟨b, b0, b1, pb⟩ := pick02 (R := R) (IntKind.i64.wrap (Int.tdiv raw[i] 5)) 2048 ht (by omega) (by omega)
        obtain ⟨d, d0, d1, pd⟩ := pick02 (R := R) (IntKind.i64.wrap (Int.tdiv raw[i] 5)) 65536 ht (by omega) (by omega)
        obtain ⟨f, f0, f1, pf⟩ := pick02 (R := R) (IntKind.i64.wrap (Int.tdiv raw[i] 5)) 1114112 ht (by omega) (by omega)
        obtain ⟨rs', q1, q2, q3⟩ := key (if y6 = 0 ∨ y6 = 1 then a else if y6 = 2 then b else if y6 = 3 then d else f) (by split; omega; split; omega; split <;> omega) (by split; omega; split; omega; split <;> omega)
        refine ⟨rs', q1, q2, fun e0 => ?_⟩
        rw [← q3 e0]
        show law02_Text_3_0_B law02_pick _ raw (encL rs) (i : Int) e0 = _
        unfold law02_Text_3_0_B
        rw [dtrue (show (i : Int) < (raw.length : Int) by omega), cond_true, dtrue (show (i : Int) < 200 by omega), cond_true, dtrue (show (0 : Int) ≤ (i : Int) by omega)]
        rw [chk_pos (by rfl)]
        simp only [hget, py, pa, pb, pd, pf]
        have add := fun (z : Int) (z0 : 0 ≤ z) (z1 : z < 1114112) => text_add raw (encL rs) i (fun x0' x1' x2' => law02_Text_3_0_L (R := R) n x0' x1' x2' e0) z0 z1 hl hi2
        by_cases c0 : y6 = 0
        · rw [if_pos (.inl c0)]
          have e0' : (y6 == 0) = true := by simp [c0]
          rw [e0', cond_true, cond_true]
          exact add a a0 (by omega)
        · have e0' : (y6 == 0) = false := by simp [c0]
          rw [e0', cond_false]
          by_cases c1 : y6 = 1
          · rw [if_pos (.inr c1)]
            have e1' : (y6 == 1) = true := by simp [c1]
            rw [e1', cond_true]
            exact add a a0 (by omega)
          · have e1' : (y6 == 1) = false := by simp [c1]
            rw [e1', cond_false, if_neg (by omega)]
            by_cases c2 : y6 = 2
            · have e2' : (y6 == 2) = true := by simp [c2]
              rw [e2', cond_true, if_pos c2]
              exact add b b0 (by omega)
            · have e2' : (y6 == 2) = false := by simp [c2]
              rw [e2', cond_false, if_neg c2]
              by_cases c3 : y6 = 3
              · have e3' : (y6 == 3) = true := by simp [c3]
                rw [e3', cond_true, if_pos c3]
                exact add d d0 (by omega)
              · have e3' : (y6 == 3) = false := by simp [c3]
                rw [e3', cond_false, if_neg c3]
                exact add f f0 (by omega)
      · refine ⟨rs, hrs, by omega, fun e0 => ?_⟩
        show law02_Text_3_0_B law02_pick _ raw (encL rs) (i : Int) e0 = _
        unfold law02_Text_3_0_B
        rw [dtrue (show (i : Int) < (raw.length : Int) by omega), cond_true, dfalse (show ¬ (i : Int) < 200 by omega), cond_false]
    · refine ⟨rs, hrs, by omega, fun e0 => ?_⟩
      show law02_Text_3_0_B law02_pick _ raw (encL rs) (i : Int) e0 = _
      unfold law02_Text_3_0_B
      rw [dfalse (show ¬ (i : Int) < (raw.length : Int) by omega), cond_false]

/-- TEXT: some runes, and no more than 800 bytes. -/
theorem text_ok {R : Type} (raw : List Int) (hraw : ∀ x ∈ raw, I64 x) : ∃ rs : List Nat, (∀ c ∈ rs, vr c) ∧ (encL rs).length ≤ 800 ∧ ∀ k : Str → Option R, law02_Text raw k = k (encL rs) := by
  obtain ⟨rs, h1, h2, h3⟩ := text_loop (R := R) raw hraw (List.length raw + List.length ([] : Str) + Int.natAbs 0 + 64) 0 [] (by omega) (by omega) (by omega) (by simp) (by simp [encL])
  exact ⟨rs, h1, h2, fun k => h3 _⟩
end Go.Proofs.YtifgegmnngfckaaDoor

/-
  QuoteWhole. Own work.
-/
set_option linter.unusedVariables false
namespace Go.Proofs.YtifgegmnngfckaaDoor
open Go Go.Yard

theorem small_i64 {N : Nat} {l : List Int} (h : Small N (.sl (.int .i64) l .no)) : l.length ≤ N ∧ ∀ x ∈ l, I64 x := by
  cases h with
  | sl h he => exact ⟨h, fun x hx => i64_has.1 (he x hx (.int .i64 x) (by simp [Ty.cells])).int_inv⟩

theorem quoteWhole_true {R : Type} (s : Str) (raw : List Int) (hs : Small 1048576 (.str s)) (hr : Small 1048576 (.sl (.int .i64) raw .no)) (k : Bool → Option R) : law02_QuoteWhole s raw k = k true := by
  obtain ⟨rs, h1, h2, h3⟩ := text_ok (R := R) raw (small_i64 hr).2
  have hsl := hs.str_inv
  show law02_QuoteWhole_X law02_awake law02_Text quote_Whole s raw k = k true
  unfold law02_QuoteWhole_X
  rw [awake02]
  simp only [h3, cond_true]
  have hw : validS (encL rs) = true := whole_iff.2 ⟨rs, h1, rfl⟩
  have q : ∀ (x : Str) (f : Bool → Option R), quote_Whole x f = f (validS x) := fun _ _ => rfl
  simp only [q, hw, cond_true, validS_app hw]
  rw [chk_pos (dtrue (by omega))]
  simp only [BEq.rfl, cond_true]
  rw [chk_pos (dtrue (by omega)), chk_pos (dtrue (by simp only [List.length_append, List.length_cons, List.length_nil]; omega))]
  have e : (s ++ [97]) ++ encL rs = s ++ (97 : UInt8) :: encL rs := by simp
  rw [e, validS_mid (by decide) _ s.length s (Nat.le_refl _), hw]
  simp
end Go.Proofs.YtifgegmnngfckaaDoor

/-
  Functions of the program as pure Lean functions, and the ties; printed by wip/tools/emit.py.
-/
set_option maxRecDepth 100000
set_option linter.unusedVariables false
namespace Go.Proofs.YtifgegmnngfckaaDoor
open Go Go.Yard

/-! ### humpyard/humpyardlaw01.pick -/
abbrev law01_pick_ty (R : Type) : Type := Int → Int → (Int → Option R) → Option R
abbrev law01_pick_p : List Pat := [.leaf (.int .i64), .leaf (.int .i64)]
abbrev law01_pick_q : List HPat := []
noncomputable def law01_pick_rr {R : Type} (fn : law01_pick_ty R) : Pat.dens law01_pick_p → HPat.dens law01_pick_q → (V → Heap → Option R) → Option R := fun x y k => fn x.1 x.2.1 (fun q0 => k (.int .i64 q0) [])
noncomputable def law01_pick_E (R : Type) : Env R := fun i => match i with
  | _ => none
theorem law01_pick_EOk (R : Type) : EOk Tryd.prog (law01_pick_E R) := by
  intro i b sp h
  unfold law01_pick_E at h
  split at h
  · cases h

noncomputable def law01_pick_T (R : Type) : Nat → Option (Hint × LSpec R) := fun i => match i with
  | _ => none

noncomputable def law01_pick_X {R : Type} (x1 : Int) (x2 : Int) (k0 : Int → Option R) : Option R :=
  bif (decide (x1 < (0 : Int))) then (chk (!decide (x2 = 0)) (k0 (Int.tmod (IntKind.i64.wrap (0 - (IntKind.i64.wrap (x1 + 1)))) x2))) else (chk (!decide (x2 = 0)) (k0 (Int.tmod x1 x2)))
noncomputable def law01_pick {R : Type} : law01_pick_ty R := fun x1 x2 k0 => law01_pick_X x1 x2 k0
theorem law01_pick_ok {R : Type} (x1 : Int) (x2 : Int) (k : V → Heap → Option R) : funK tt (law01_pick_E R) (law01_pick_T R) false Tryd.f31 (codeOf Tryd.f31) [.int .i64 x1, .int .i64 x2] [] k =
    law01_pick_X x1 x2 (fun q0 => k (.int .i64 q0) []) := by kernel_rfl
theorem law01_pick_loops (R : Type) : ∀ a ∈ loopsOf (codeOf Tryd.f31), LoopOk tt (law01_pick_E R) (law01_pick_T R) 0 a := by
  refine loops_ok 0 (by kernel_rfl) fun i hi => ?_
  omega
theorem law01_pick_S_ok (R : Type) (other : Yard.Spec R) (ho : Yard.Spec.Ok Tryd.prog 31 other) : Yard.Spec.Ok Tryd.prog 31 (specBy law01_pick_p law01_pick_q (law01_pick_rr law01_pick) other) :=
  specBy_ok ho (funK_sound TT mixed (law01_pick_EOk R) (keep := false) rfl rfl rfl rfl 0 (law01_pick_loops R)) fun (x : Pat.dens law01_pick_p) (y : HPat.dens law01_pick_q) k => law01_pick_ok x.1 x.2.1 k

/-! ### humpyard/humpyardlaw01.Fit -/
abbrev law01_Fit_ty (R : Type) : Type := Int → Int → (Dcm → Option R) → Option R
abbrev law01_Fit_p : List Pat := [.leaf (.int .i64), .leaf (.int .i64)]
abbrev law01_Fit_q : List HPat := []
noncomputable def law01_Fit_rr {R : Type} (fn : law01_Fit_ty R) : Pat.dens law01_Fit_p → HPat.dens law01_Fit_q → (V → Heap → Option R) → Option R := fun x y k => fn x.1 x.2.1 (fun q0 => k (.agg [.int .i64 q0.mant, .int .i64 q0.exp]) [])
abbrev law01_Fit_3_0_ty (R : Type) : Type := Nat → Int → Int → Dcm → (Int → Int → Dcm → Option R) → Option R
noncomputable def law01_Fit_E (R : Type) (law01_pick : law01_pick_ty R) : Env R := fun i => match i with
  | 31 => some (true, (specBy law01_pick_p law01_pick_q (law01_pick_rr law01_pick) specNo))
  | _ => none
theorem law01_Fit_EOk (R : Type) : EOk Tryd.prog (law01_Fit_E R law01_pick) := by
  intro i b sp h
  unfold law01_Fit_E at h
  split at h
  · cases h; exact ⟨(law01_pick_S_ok R _ (specNo_ok _)), fun h => nomatch h⟩
  · cases h

noncomputable def law01_Fit_3_0_B {R : Type} (rec' : Int → Int → Dcm → Option R) (x5 : Int) (x6 : Int) (x7 : Dcm) (e0 : Int → Int → Dcm → Option R) : Option R :=
  bif (x5 != 0) then (bif ((Int.tmod x5 10) == 0) then (rec' (IntKind.i64.wrap (Int.tdiv x5 10)) x6 x7) else (e0 x5 x6 x7)) else (e0 x5 x6 x7)
noncomputable def law01_Fit_3_0_L {R : Type} : law01_Fit_3_0_ty R
  | 0, _, _, _, _ => none
  | n + 1, x0', x1', x2', e0 => law01_Fit_3_0_B (fun x0' x1' x2' => law01_Fit_3_0_L n x0' x1' x2' e0) x0' x1' x2' e0
noncomputable def law01_Fit_3_0_h : Hint := { live := [4, 5, 6], own := [], rows := [], cells := [], drop := [], out := [4, 5, 6] }
abbrev law01_Fit_3_0_D : Type := Int × Int × Dcm
noncomputable def law01_Fit_3_0_enc : law01_Fit_3_0_D → St := fun d => ⟨[.undef, .undef, .undef, .undef, .ptr 0 0, .int .i64 d.1, .int .i64 d.2.1, .undef, .undef, .undef, .undef, .undef, .undef, .undef, .undef, .undef, .undef, .undef, .undef, .undef, .undef, .undef, .undef, .undef, .undef, .undef, .undef], [.cells [.int .i64 d.2.2.mant, .int .i64 d.2.2.exp]]⟩
noncomputable def law01_Fit_3_0_x0 {R : Type} (K : Ex → St → Option R) (q0 : Int) (q1 : Int) (q2 : Dcm) : Option R := K (.exit 0) ⟨[.undef, .undef, .undef, .undef, .ptr 0 0, .int .i64 q0, .int .i64 q1, .undef, .undef, .undef, .undef, .undef, .undef, .undef, .undef, .undef, .undef, .undef, .undef, .undef, .undef, .undef, .undef, .undef, .undef, .undef, .undef], [.cells [.int .i64 q2.mant, .int .i64 q2.exp]]⟩
noncomputable def law01_Fit_3_0_s {R : Type} (K : Ex → St → Option R) (rc : law01_Fit_3_0_D → Option R) (d : law01_Fit_3_0_D) : Option R := law01_Fit_3_0_B (fun z0 z1 z2 => rc (z0, z1, z2)) d.1 d.2.1 d.2.2 (law01_Fit_3_0_x0 K)
noncomputable def law01_Fit_3_0_A {R : Type} (K : Ex → St → Option R) (n : Nat) (d : law01_Fit_3_0_D) : Option R := law01_Fit_3_0_L n d.1 d.2.1 d.2.2 (law01_Fit_3_0_x0 K)
abbrev law01_Fit_3_0_p : List Pat := [.leaf (.undef), .leaf (.undef), .leaf (.undef), .leaf (.undef), .leaf (.ptr 0 0), .leaf (.int .i64), .leaf (.int .i64), .leaf (.undef), .leaf (.undef), .leaf (.undef), .leaf (.undef), .leaf (.undef), .leaf (.undef), .leaf (.undef), .leaf (.undef), .leaf (.undef), .leaf (.undef), .leaf (.undef), .leaf (.undef), .leaf (.undef), .leaf (.undef), .leaf (.undef), .leaf (.undef), .leaf (.undef), .leaf (.undef), .leaf (.undef), .leaf (.undef)]
abbrev law01_Fit_3_0_q : List HPat := [.cells [.int .i64, .int .i64]]
noncomputable def law01_Fit_3_0_f (x : Pat.dens law01_Fit_3_0_p) (y : HPat.dens law01_Fit_3_0_q) : Nat := (Int.natAbs x.2.2.2.2.2.1 + Int.natAbs x.2.2.2.2.2.2.1 + Dcm.fu (⟨y.1.1, y.1.2.1⟩ : Dcm) + 64)
noncomputable def law01_Fit_3_0_d (x : Pat.dens law01_Fit_3_0_p) (y : HPat.dens law01_Fit_3_0_q) : law01_Fit_3_0_D := (x.2.2.2.2.2.1, x.2.2.2.2.2.2.1, (⟨y.1.1, y.1.2.1⟩ : Dcm))
noncomputable def law01_Fit_3_0_rr {R : Type} (L : law01_Fit_3_0_ty R) : Pat.dens law01_Fit_3_0_p → HPat.dens law01_Fit_3_0_q → (Ex → St → Option R) → Option R := fun x y K => L (law01_Fit_3_0_f x y) x.2.2.2.2.2.1 x.2.2.2.2.2.2.1 (⟨y.1.1, y.1.2.1⟩ : Dcm) (law01_Fit_3_0_x0 K)
noncomputable def law01_Fit_T (R : Type) (law01_Fit_3_0_L : law01_Fit_3_0_ty R) : Nat → Option (Hint × LSpec R) := fun i => match i with
  | 3 => some (law01_Fit_3_0_h, (loopBy law01_Fit_3_0_p law01_Fit_3_0_q (law01_Fit_3_0_rr law01_Fit_3_0_L) loopNo))
  | _ => none

theorem law01_Fit_3_0_B_ok {R : Type} (law01_pick : law01_pick_ty R) (law01_Fit_3_0_L : law01_Fit_3_0_ty R) (K : Ex → St → Option R) (rc : St → Option R) (d : law01_Fit_3_0_D) : roundOf tt (law01_Fit_E R law01_pick) (law01_Fit_T R law01_Fit_3_0_L) 0 ((loopsOf (codeOf Tryd.f27)).getD 0 .skip) law01_Fit_3_0_h (law01_Fit_3_0_enc d) rc K = law01_Fit_3_0_s K (fun d => rc (law01_Fit_3_0_enc d)) d := by kernel_rfl
theorem law01_Fit_3_0_A_succ {R : Type} (K : Ex → St → Option R) (n : Nat) (d : law01_Fit_3_0_D) : law01_Fit_3_0_A K (n + 1) d = law01_Fit_3_0_s K (law01_Fit_3_0_A K n) d := by kernel_rfl
theorem law01_Fit_3_0_A_zero {R : Type} (K : Ex → St → Option R) (d : law01_Fit_3_0_D) : law01_Fit_3_0_A K 0 d = none := by kernel_rfl
theorem law01_Fit_3_0_e_ok (x : Pat.dens law01_Fit_3_0_p) (y : HPat.dens law01_Fit_3_0_q) : (⟨Pat.encL law01_Fit_3_0_p x, HPat.encL law01_Fit_3_0_q y⟩ : St) = law01_Fit_3_0_enc (law01_Fit_3_0_d x y) := by kernel_rfl
theorem law01_Fit_3_0_r_ok {R : Type} (x : Pat.dens law01_Fit_3_0_p) (y : HPat.dens law01_Fit_3_0_q) (K : Ex → St → Option R) : law01_Fit_3_0_rr (law01_Fit_3_0_L) x y K = law01_Fit_3_0_A K (law01_Fit_3_0_f x y) (law01_Fit_3_0_d x y) := by kernel_rfl
theorem law01_Fit_3_0_ok {R : Type} (other : LSpec R) (ho : LsOk tt (law01_Fit_E R law01_pick) (law01_Fit_T R law01_Fit_3_0_L) 0 ((loopsOf (codeOf Tryd.f27)).getD 0 .skip) law01_Fit_3_0_h other) : LsOk tt (law01_Fit_E R law01_pick) (law01_Fit_T R law01_Fit_3_0_L) 0 ((loopsOf (codeOf Tryd.f27)).getD 0 .skip) law01_Fit_3_0_h (loopBy law01_Fit_3_0_p law01_Fit_3_0_q (law01_Fit_3_0_rr (law01_Fit_3_0_L)) other) :=
  loopBy_tie (A := law01_Fit_3_0_A) ho (loop_tie law01_Fit_3_0_enc (law01_Fit_3_0_s) (law01_Fit_3_0_A) (law01_Fit_3_0_A_zero) (law01_Fit_3_0_B_ok law01_pick law01_Fit_3_0_L) (law01_Fit_3_0_A_succ)) law01_Fit_3_0_f law01_Fit_3_0_d law01_Fit_3_0_e_ok (law01_Fit_3_0_r_ok)

noncomputable def law01_Fit_X {R : Type} (law01_pick : law01_pick_ty R) (law01_Fit_3_0_L : law01_Fit_3_0_ty R) (x1 : Int) (x2 : Int) (k0 : Dcm → Option R) : Option R :=
  law01_pick x1 2000000000000001 (fun y3 => law01_pick x2 19 (fun y4 => law01_Fit_3_0_L (Int.natAbs (IntKind.i64.wrap (y3 - 1000000000000000)) + Int.natAbs (IntKind.i64.wrap (y4 - 9)) + Dcm.fu (⟨0, 0⟩ : Dcm) + 64) (IntKind.i64.wrap (y3 - 1000000000000000)) (IntKind.i64.wrap (y4 - 9)) (⟨0, 0⟩ : Dcm) (fun y9 y10 y11 => bif (y9 == 0) then (k0 (⟨y9, 0⟩ : Dcm)) else (k0 (⟨y9, y10⟩ : Dcm)))))
noncomputable def law01_Fit {R : Type} : law01_Fit_ty R := fun x1 x2 k0 => law01_Fit_X law01_pick law01_Fit_3_0_L x1 x2 k0
theorem law01_Fit_ok {R : Type} (law01_pick : law01_pick_ty R) (law01_Fit_3_0_L : law01_Fit_3_0_ty R) (x1 : Int) (x2 : Int) (k : V → Heap → Option R) : funK tt (law01_Fit_E R law01_pick) (law01_Fit_T R law01_Fit_3_0_L) false Tryd.f27 (codeOf Tryd.f27) [.int .i64 x1, .int .i64 x2] [] k =
    law01_Fit_X law01_pick law01_Fit_3_0_L x1 x2 (fun q0 => k (.agg [.int .i64 q0.mant, .int .i64 q0.exp]) []) := by kernel_rfl
theorem law01_Fit_loops (R : Type) : ∀ a ∈ loopsOf (codeOf Tryd.f27), LoopOk tt (law01_Fit_E R law01_pick) (law01_Fit_T R law01_Fit_3_0_L) 0 a := by
  refine loops_ok 1 (by kernel_rfl) fun i hi => ?_
  match i, hi with
  | 0, _ => exact loopOk_some (by kernel_rfl) (law01_Fit_3_0_ok _ loopNo_ok)
  | n + 1, hi => omega
theorem law01_Fit_S_ok (R : Type) (other : Yard.Spec R) (ho : Yard.Spec.Ok Tryd.prog 27 other) : Yard.Spec.Ok Tryd.prog 27 (specBy law01_Fit_p law01_Fit_q (law01_Fit_rr law01_Fit) other) :=
  specBy_ok ho (funK_sound TT mixed (law01_Fit_EOk R) (keep := false) rfl rfl rfl rfl 0 (law01_Fit_loops R)) fun (x : Pat.dens law01_Fit_p) (y : HPat.dens law01_Fit_q) k => law01_Fit_ok law01_pick law01_Fit_3_0_L x.1 x.2.1 k

end Go.Proofs.YtifgegmnngfckaaDoor

/-
  Functions of the program as pure Lean functions, and the ties; printed by wip/tools/emit.py.
-/
set_option maxRecDepth 100000
set_option linter.unusedVariables false
namespace Go.Proofs.YtifgegmnngfckaaDoor
open Go Go.Yard

/-! ### humpyard/humpyardlaw01.DecimalMoves -/
abbrev law01_DecimalMoves_ty (R : Type) : Type := Int → Int → Int → (Bool → Option R) → Option R
abbrev law01_DecimalMoves_p : List Pat := [.leaf (.int .i64), .leaf (.int .i64), .leaf (.int .i64)]
abbrev law01_DecimalMoves_q : List HPat := []
noncomputable def law01_DecimalMoves_rr {R : Type} (fn : law01_DecimalMoves_ty R) : Pat.dens law01_DecimalMoves_p → HPat.dens law01_DecimalMoves_q → (V → Heap → Option R) → Option R := fun x y k => fn x.1 x.2.1 x.2.2.1 (fun q0 => k (.bool q0) [])
abbrev law01_DecimalMoves_7_0_ty (R : Type) : Type := Nat → Int → Bool → Int → Bool → Int → Int → Dcm → (Int → Bool → Int → Bool → Int → Dcm → Option R) → Option R
noncomputable def law01_DecimalMoves_E (R : Type) (law01_awake : law01_awake_ty R) (decimal_Right : decimal_Right_ty R) (law01_pick : law01_pick_ty R) (decimal_Make : decimal_Make_ty R) : Env R := fun i => match i with
  | 26 => some (true, (specBy law01_awake_p law01_awake_q (law01_awake_rr law01_awake) specNo))
  | 30 => some (true, (specBy decimal_Right_p decimal_Right_q (decimal_Right_rr decimal_Right) specNo))
  | 31 => some (true, (specBy law01_pick_p law01_pick_q (law01_pick_rr law01_pick) specNo))
  | 32 => some (true, (specBy decimal_Make_p decimal_Make_q (decimal_Make_rr decimal_Make) specNo))
  | _ => none
theorem law01_DecimalMoves_EOk (R : Type) : EOk Tryd.prog (law01_DecimalMoves_E R law01_awake decimal_Right law01_pick decimal_Make) := by
  intro i b sp h
  unfold law01_DecimalMoves_E at h
  split at h
  · cases h; exact ⟨(law01_awake_S_ok R _ (specNo_ok _)), fun h => nomatch h⟩
  · cases h; exact ⟨(decimal_Right_S_ok R _ (specNo_ok _)), fun h => nomatch h⟩
  · cases h; exact ⟨(law01_pick_S_ok R _ (specNo_ok _)), fun h => nomatch h⟩
  · cases h; exact ⟨(decimal_Make_S_ok R _ (specNo_ok _)), fun h => nomatch h⟩
  · cases h

noncomputable def law01_DecimalMoves_7_0_B {R : Type} (law01_pick : law01_pick_ty R) (rec' : Int → Bool → Int → Bool → Int → Int → Dcm → Option R) (x9 : Int) (x10 : Bool) (x11 : Int) (x12 : Bool) (x13 : Int) (x14 : Int) (x15 : Dcm) (e0 : Int → Bool → Int → Bool → Int → Dcm → Option R) : Option R :=
  law01_pick x9 4 (fun y16 => bif (decide (x14 < y16)) then (rec' x9 x10 x11 x12 (IntKind.i64.wrap (10 * x13)) (IntKind.i64.wrap (x14 + 1)) x15) else (e0 x9 x10 x11 x12 x13 x15))
noncomputable def law01_DecimalMoves_7_0_L {R : Type} : law01_DecimalMoves_7_0_ty R
  | 0, _, _, _, _, _, _, _, _ => none
  | n + 1, x0', x1', x2', x3', x4', x5', x6', e0 => law01_DecimalMoves_7_0_B law01_pick (fun x0' x1' x2' x3' x4' x5' x6' => law01_DecimalMoves_7_0_L n x0' x1' x2' x3' x4' x5' x6' e0) x0' x1' x2' x3' x4' x5' x6' e0
noncomputable def law01_DecimalMoves_7_0_h : Hint := { live := [2, 7, 9, 10, 11, 12, 13], own := [], rows := [], cells := [], drop := [], out := [2, 6, 7, 9, 10, 11, 12] }
abbrev law01_DecimalMoves_7_0_D : Type := Int × Bool × Int × Bool × Int × Int × Dcm
noncomputable def law01_DecimalMoves_7_0_enc : law01_DecimalMoves_7_0_D → St := fun d => ⟨[.undef, .undef, .int .i64 d.1, .undef, .undef, .undef, .undef, .bool d.2.1, .undef, .int .i64 d.2.2.1, .ptr 0 0, .bool d.2.2.2.1, .int .i64 d.2.2.2.2.1, .int .i64 d.2.2.2.2.2.1, .undef, .undef, .undef, .undef, .undef, .undef, .undef, .undef, .undef, .undef, .undef, .undef, .undef, .undef, .undef, .undef, .undef, .undef, .undef, .undef, .undef, .undef, .undef, .undef, .undef, .undef, .undef, .undef, .undef, .undef, .undef, .undef, .undef, .undef, .undef, .undef, .undef, .undef, .undef, .undef, .undef, .undef, .undef, .undef, .undef, .undef, .undef, .undef, .undef, .undef, .undef, .undef], [.cells [.int .i64 d.2.2.2.2.2.2.mant, .int .i64 d.2.2.2.2.2.2.exp]]⟩
noncomputable def law01_DecimalMoves_7_0_x0 {R : Type} (K : Ex → St → Option R) (q0 : Int) (q1 : Bool) (q2 : Int) (q3 : Bool) (q4 : Int) (q5 : Dcm) : Option R := K (.exit 0) ⟨[.undef, .undef, .int .i64 q0, .undef, .undef, .undef, .undef, .bool q1, .undef, .int .i64 q2, .ptr 0 0, .bool q3, .int .i64 q4, .undef, .undef, .undef, .undef, .undef, .undef, .undef, .undef, .undef, .undef, .undef, .undef, .undef, .undef, .undef, .undef, .undef, .undef, .undef, .undef, .undef, .undef, .undef, .undef, .undef, .undef, .undef, .undef, .undef, .undef, .undef, .undef, .undef, .undef, .undef, .undef, .undef, .undef, .undef, .undef, .undef, .undef, .undef, .undef, .undef, .undef, .undef, .undef, .undef, .undef, .undef, .undef, .undef], [.cells [.int .i64 q5.mant, .int .i64 q5.exp]]⟩
noncomputable def law01_DecimalMoves_7_0_s {R : Type} (law01_pick : law01_pick_ty R) (K : Ex → St → Option R) (rc : law01_DecimalMoves_7_0_D → Option R) (d : law01_DecimalMoves_7_0_D) : Option R := law01_DecimalMoves_7_0_B law01_pick (fun z0 z1 z2 z3 z4 z5 z6 => rc (z0, z1, z2, z3, z4, z5, z6)) d.1 d.2.1 d.2.2.1 d.2.2.2.1 d.2.2.2.2.1 d.2.2.2.2.2.1 d.2.2.2.2.2.2 (law01_DecimalMoves_7_0_x0 K)
noncomputable def law01_DecimalMoves_7_0_A {R : Type} (K : Ex → St → Option R) (n : Nat) (d : law01_DecimalMoves_7_0_D) : Option R := law01_DecimalMoves_7_0_L n d.1 d.2.1 d.2.2.1 d.2.2.2.1 d.2.2.2.2.1 d.2.2.2.2.2.1 d.2.2.2.2.2.2 (law01_DecimalMoves_7_0_x0 K)
abbrev law01_DecimalMoves_7_0_p : List Pat := [.leaf (.undef), .leaf (.undef), .leaf (.int .i64), .leaf (.undef), .leaf (.undef), .leaf (.undef), .leaf (.undef), .leaf (.bool), .leaf (.undef), .leaf (.int .i64), .leaf (.ptr 0 0), .leaf (.bool), .leaf (.int .i64), .leaf (.int .i64), .leaf (.undef), .leaf (.undef), .leaf (.undef), .leaf (.undef), .leaf (.undef), .leaf (.undef), .leaf (.undef), .leaf (.undef), .leaf (.undef), .leaf (.undef), .leaf (.undef), .leaf (.undef), .leaf (.undef), .leaf (.undef), .leaf (.undef), .leaf (.undef), .leaf (.undef), .leaf (.undef), .leaf (.undef), .leaf (.undef), .leaf (.undef), .leaf (.undef), .leaf (.undef), .leaf (.undef), .leaf (.undef), .leaf (.undef), .leaf (.undef), .leaf (.undef), .leaf (.undef), .leaf (.undef), .leaf (.undef), .leaf (.undef), .leaf (.undef), .leaf (.undef), .leaf (.undef), .leaf (.undef), .leaf (.undef), .leaf (.undef), .leaf (.undef), .leaf (.undef), .leaf (.undef), .leaf (.undef), .leaf (.undef), .leaf (.undef), .leaf (.undef), .leaf (.undef), .leaf (.undef), .leaf (.undef), .leaf (.undef), .leaf (.undef), .leaf (.undef), .leaf (.undef)]
abbrev law01_DecimalMoves_7_0_q : List HPat := [.cells [.int .i64, .int .i64]]
noncomputable def law01_DecimalMoves_7_0_f (x : Pat.dens law01_DecimalMoves_7_0_p) (y : HPat.dens law01_DecimalMoves_7_0_q) : Nat := (Int.natAbs x.2.2.1 + Int.natAbs x.2.2.2.2.2.2.2.2.2.1 + Int.natAbs x.2.2.2.2.2.2.2.2.2.2.2.2.1 + Int.natAbs x.2.2.2.2.2.2.2.2.2.2.2.2.2.1 + Dcm.fu (⟨y.1.1, y.1.2.1⟩ : Dcm) + 64)
noncomputable def law01_DecimalMoves_7_0_d (x : Pat.dens law01_DecimalMoves_7_0_p) (y : HPat.dens law01_DecimalMoves_7_0_q) : law01_DecimalMoves_7_0_D := (x.2.2.1, x.2.2.2.2.2.2.2.1, x.2.2.2.2.2.2.2.2.2.1, x.2.2.2.2.2.2.2.2.2.2.2.1, x.2.2.2.2.2.2.2.2.2.2.2.2.1, x.2.2.2.2.2.2.2.2.2.2.2.2.2.1, (⟨y.1.1, y.1.2.1⟩ : Dcm))
noncomputable def law01_DecimalMoves_7_0_rr {R : Type} (L : law01_DecimalMoves_7_0_ty R) : Pat.dens law01_DecimalMoves_7_0_p → HPat.dens law01_DecimalMoves_7_0_q → (Ex → St → Option R) → Option R := fun x y K => L (law01_DecimalMoves_7_0_f x y) x.2.2.1 x.2.2.2.2.2.2.2.1 x.2.2.2.2.2.2.2.2.2.1 x.2.2.2.2.2.2.2.2.2.2.2.1 x.2.2.2.2.2.2.2.2.2.2.2.2.1 x.2.2.2.2.2.2.2.2.2.2.2.2.2.1 (⟨y.1.1, y.1.2.1⟩ : Dcm) (law01_DecimalMoves_7_0_x0 K)
noncomputable def law01_DecimalMoves_T (R : Type) (law01_DecimalMoves_7_0_L : law01_DecimalMoves_7_0_ty R) : Nat → Option (Hint × LSpec R) := fun i => match i with
  | 7 => some (law01_DecimalMoves_7_0_h, (loopBy law01_DecimalMoves_7_0_p law01_DecimalMoves_7_0_q (law01_DecimalMoves_7_0_rr law01_DecimalMoves_7_0_L) loopNo))
  | _ => none

theorem law01_DecimalMoves_7_0_B_ok {R : Type} (law01_awake : law01_awake_ty R) (decimal_Right : decimal_Right_ty R) (law01_pick : law01_pick_ty R) (decimal_Make : decimal_Make_ty R) (law01_DecimalMoves_7_0_L : law01_DecimalMoves_7_0_ty R) (K : Ex → St → Option R) (rc : St → Option R) (d : law01_DecimalMoves_7_0_D) : roundOf tt (law01_DecimalMoves_E R law01_awake decimal_Right law01_pick decimal_Make) (law01_DecimalMoves_T R law01_DecimalMoves_7_0_L) 0 ((loopsOf (codeOf Tryd.f12)).getD 0 .skip) law01_DecimalMoves_7_0_h (law01_DecimalMoves_7_0_enc d) rc K = law01_DecimalMoves_7_0_s law01_pick K (fun d => rc (law01_DecimalMoves_7_0_enc d)) d := by kernel_rfl
theorem law01_DecimalMoves_7_0_A_succ {R : Type} (K : Ex → St → Option R) (n : Nat) (d : law01_DecimalMoves_7_0_D) : law01_DecimalMoves_7_0_A K (n + 1) d = law01_DecimalMoves_7_0_s law01_pick K (law01_DecimalMoves_7_0_A K n) d := by kernel_rfl
theorem law01_DecimalMoves_7_0_A_zero {R : Type} (K : Ex → St → Option R) (d : law01_DecimalMoves_7_0_D) : law01_DecimalMoves_7_0_A K 0 d = none := by kernel_rfl
theorem law01_DecimalMoves_7_0_e_ok (x : Pat.dens law01_DecimalMoves_7_0_p) (y : HPat.dens law01_DecimalMoves_7_0_q) : (⟨Pat.encL law01_DecimalMoves_7_0_p x, HPat.encL law01_DecimalMoves_7_0_q y⟩ : St) = law01_DecimalMoves_7_0_enc (law01_DecimalMoves_7_0_d x y) := by kernel_rfl
theorem law01_DecimalMoves_7_0_r_ok {R : Type} (x : Pat.dens law01_DecimalMoves_7_0_p) (y : HPat.dens law01_DecimalMoves_7_0_q) (K : Ex → St → Option R) : law01_DecimalMoves_7_0_rr (law01_DecimalMoves_7_0_L) x y K = law01_DecimalMoves_7_0_A K (law01_DecimalMoves_7_0_f x y) (law01_DecimalMoves_7_0_d x y) := by kernel_rfl
theorem law01_DecimalMoves_7_0_ok {R : Type} (other : LSpec R) (ho : LsOk tt (law01_DecimalMoves_E R law01_awake decimal_Right law01_pick decimal_Make) (law01_DecimalMoves_T R law01_DecimalMoves_7_0_L) 0 ((loopsOf (codeOf Tryd.f12)).getD 0 .skip) law01_DecimalMoves_7_0_h other) : LsOk tt (law01_DecimalMoves_E R law01_awake decimal_Right law01_pick decimal_Make) (law01_DecimalMoves_T R law01_DecimalMoves_7_0_L) 0 ((loopsOf (codeOf Tryd.f12)).getD 0 .skip) law01_DecimalMoves_7_0_h (loopBy law01_DecimalMoves_7_0_p law01_DecimalMoves_7_0_q (law01_DecimalMoves_7_0_rr (law01_DecimalMoves_7_0_L)) other) :=
  loopBy_tie (A := law01_DecimalMoves_7_0_A) ho (loop_tie law01_DecimalMoves_7_0_enc (law01_DecimalMoves_7_0_s law01_pick) (law01_DecimalMoves_7_0_A) (law01_DecimalMoves_7_0_A_zero) (law01_DecimalMoves_7_0_B_ok law01_awake decimal_Right law01_pick decimal_Make law01_DecimalMoves_7_0_L) (law01_DecimalMoves_7_0_A_succ)) law01_DecimalMoves_7_0_f law01_DecimalMoves_7_0_d law01_DecimalMoves_7_0_e_ok (law01_DecimalMoves_7_0_r_ok)

noncomputable def law01_DecimalMoves_X {R : Type} (law01_awake : law01_awake_ty R) (decimal_Right : decimal_Right_ty R) (law01_pick : law01_pick_ty R) (decimal_Make : decimal_Make_ty R) (law01_DecimalMoves_7_0_L : law01_DecimalMoves_7_0_ty R) (x1 : Int) (x2 : Int) (x3 : Int) (k0 : Bool → Option R) : Option R :=
  law01_awake (fun y4 => law01_pick x1 2000000000001 (fun y5 => law01_pick x2 30 (fun y6 => decimal_Make (IntKind.i64.wrap (y5 - 1000000000000)) (IntKind.i64.wrap (y6 - 15)) (fun y7 y8 => law01_DecimalMoves_7_0_L (Int.natAbs x3 + Int.natAbs (IntKind.i64.wrap (y6 - 15)) + Int.natAbs (IntKind.i64.wrap (y5 - 1000000000000)) + Int.natAbs 0 + Dcm.fu y7 + 64) x3 y4 (IntKind.i64.wrap (y6 - 15)) y8 (IntKind.i64.wrap (y5 - 1000000000000)) 0 y7 (fun y17 y18 y19 y20 y21 y22 => law01_pick y17 4 (fun y23 => decimal_Make y21 (IntKind.i64.wrap (y19 - y23)) (fun y24 y25 => bif y18 then (bif (y20 == y25) then (bif (y22.mant == y24.mant && (y22.exp == y24.exp && true)) then (bif (!y20) then (k0 true) else (decimal_Right y22 (fun y26 => k0 y26))) else (k0 false)) else (k0 false)) else (k0 false))))))))
noncomputable def law01_DecimalMoves {R : Type} : law01_DecimalMoves_ty R := fun x1 x2 x3 k0 => law01_DecimalMoves_X law01_awake decimal_Right law01_pick decimal_Make law01_DecimalMoves_7_0_L x1 x2 x3 k0
theorem law01_DecimalMoves_ok {R : Type} (law01_awake : law01_awake_ty R) (decimal_Right : decimal_Right_ty R) (law01_pick : law01_pick_ty R) (decimal_Make : decimal_Make_ty R) (law01_DecimalMoves_7_0_L : law01_DecimalMoves_7_0_ty R) (x1 : Int) (x2 : Int) (x3 : Int) (k : V → Heap → Option R) : funK tt (law01_DecimalMoves_E R law01_awake decimal_Right law01_pick decimal_Make) (law01_DecimalMoves_T R law01_DecimalMoves_7_0_L) false Tryd.f12 (codeOf Tryd.f12) [.int .i64 x1, .int .i64 x2, .int .i64 x3] [] k =
    law01_DecimalMoves_X law01_awake decimal_Right law01_pick decimal_Make law01_DecimalMoves_7_0_L x1 x2 x3 (fun q0 => k (.bool q0) []) := by kernel_rfl
theorem law01_DecimalMoves_loops (R : Type) : ∀ a ∈ loopsOf (codeOf Tryd.f12), LoopOk tt (law01_DecimalMoves_E R law01_awake decimal_Right law01_pick decimal_Make) (law01_DecimalMoves_T R law01_DecimalMoves_7_0_L) 0 a := by
  refine loops_ok 1 (by kernel_rfl) fun i hi => ?_
  match i, hi with
  | 0, _ => exact loopOk_some (by kernel_rfl) (law01_DecimalMoves_7_0_ok _ loopNo_ok)
  | n + 1, hi => omega
theorem law01_DecimalMoves_S_ok (R : Type) (other : Yard.Spec R) (ho : Yard.Spec.Ok Tryd.prog 12 other) : Yard.Spec.Ok Tryd.prog 12 (specBy law01_DecimalMoves_p law01_DecimalMoves_q (law01_DecimalMoves_rr law01_DecimalMoves) other) :=
  specBy_ok ho (funK_sound TT mixed (law01_DecimalMoves_EOk R) (keep := false) rfl rfl rfl rfl 0 (law01_DecimalMoves_loops R)) fun (x : Pat.dens law01_DecimalMoves_p) (y : HPat.dens law01_DecimalMoves_q) k => law01_DecimalMoves_ok law01_awake decimal_Right law01_pick decimal_Make law01_DecimalMoves_7_0_L x.1 x.2.1 x.2.2.1 k

/-! ### cmp.isNaN[int] -/
abbrev cmp_isNaN_int_ty (R : Type) : Type := Int → (Bool → Option R) → Option R
abbrev cmp_isNaN_int_p : List Pat := [.leaf (.int .i64)]
abbrev cmp_isNaN_int_q : List HPat := []
noncomputable def cmp_isNaN_int_rr {R : Type} (fn : cmp_isNaN_int_ty R) : Pat.dens cmp_isNaN_int_p → HPat.dens cmp_isNaN_int_q → (V → Heap → Option R) → Option R := fun x y k => fn x.1 (fun q0 => k (.bool q0) [])
noncomputable def cmp_isNaN_int_E (R : Type) : Env R := fun i => match i with
  | _ => none
theorem cmp_isNaN_int_EOk (R : Type) : EOk Tryd.prog (cmp_isNaN_int_E R) := by
  intro i b sp h
  unfold cmp_isNaN_int_E at h
  split at h
  · cases h

noncomputable def cmp_isNaN_int_T (R : Type) : Nat → Option (Hint × LSpec R) := fun i => match i with
  | _ => none

noncomputable def cmp_isNaN_int_X {R : Type} (x1 : Int) (k0 : Bool → Option R) : Option R :=
  k0 (x1 != x1)
noncomputable def cmp_isNaN_int {R : Type} : cmp_isNaN_int_ty R := fun x1 k0 => cmp_isNaN_int_X x1 k0
theorem cmp_isNaN_int_ok {R : Type} (x1 : Int) (k : V → Heap → Option R) : funK tt (cmp_isNaN_int_E R) (cmp_isNaN_int_T R) false Tryd.f95 (codeOf Tryd.f95) [.int .i64 x1] [] k =
    cmp_isNaN_int_X x1 (fun q0 => k (.bool q0) []) := by kernel_rfl
theorem cmp_isNaN_int_loops (R : Type) : ∀ a ∈ loopsOf (codeOf Tryd.f95), LoopOk tt (cmp_isNaN_int_E R) (cmp_isNaN_int_T R) 0 a := by
  refine loops_ok 0 (by kernel_rfl) fun i hi => ?_
  omega
theorem cmp_isNaN_int_S_ok (R : Type) (other : Yard.Spec R) (ho : Yard.Spec.Ok Tryd.prog 95 other) : Yard.Spec.Ok Tryd.prog 95 (specBy cmp_isNaN_int_p cmp_isNaN_int_q (cmp_isNaN_int_rr cmp_isNaN_int) other) :=
  specBy_ok ho (funK_sound TT mixed (cmp_isNaN_int_EOk R) (keep := false) rfl rfl rfl rfl 0 (cmp_isNaN_int_loops R)) fun (x : Pat.dens cmp_isNaN_int_p) (y : HPat.dens cmp_isNaN_int_q) k => cmp_isNaN_int_ok x.1 k

/-! ### cmp.Compare[int] -/
abbrev cmp_Compare_int_ty (R : Type) : Type := Int → Int → (Int → Option R) → Option R
abbrev cmp_Compare_int_p : List Pat := [.leaf (.int .i64), .leaf (.int .i64)]
abbrev cmp_Compare_int_q : List HPat := []
noncomputable def cmp_Compare_int_rr {R : Type} (fn : cmp_Compare_int_ty R) : Pat.dens cmp_Compare_int_p → HPat.dens cmp_Compare_int_q → (V → Heap → Option R) → Option R := fun x y k => fn x.1 x.2.1 (fun q0 => k (.int .i64 q0) [])
noncomputable def cmp_Compare_int_E (R : Type) (cmp_isNaN_int : cmp_isNaN_int_ty R) : Env R := fun i => match i with
  | 95 => some (true, (specBy cmp_isNaN_int_p cmp_isNaN_int_q (cmp_isNaN_int_rr cmp_isNaN_int) specNo))
  | _ => none
theorem cmp_Compare_int_EOk (R : Type) : EOk Tryd.prog (cmp_Compare_int_E R cmp_isNaN_int) := by
  intro i b sp h
  unfold cmp_Compare_int_E at h
  split at h
  · cases h; exact ⟨(cmp_isNaN_int_S_ok R _ (specNo_ok _)), fun h => nomatch h⟩
  · cases h

noncomputable def cmp_Compare_int_T (R : Type) : Nat → Option (Hint × LSpec R) := fun i => match i with
  | _ => none

noncomputable def cmp_Compare_int_X {R : Type} (cmp_isNaN_int : cmp_isNaN_int_ty R) (x1 : Int) (x2 : Int) (k0 : Int → Option R) : Option R :=
  cmp_isNaN_int x1 (fun y3 => cmp_isNaN_int x2 (fun y4 => bif y3 then (bif y4 then (k0 0) else (k0 (-1))) else (bif y4 then (k0 1) else (bif (decide (x1 < x2)) then (k0 (-1)) else (bif (decide (x1 > x2)) then (k0 1) else (k0 0))))))
noncomputable def cmp_Compare_int {R : Type} : cmp_Compare_int_ty R := fun x1 x2 k0 => cmp_Compare_int_X cmp_isNaN_int x1 x2 k0
theorem cmp_Compare_int_ok {R : Type} (cmp_isNaN_int : cmp_isNaN_int_ty R) (x1 : Int) (x2 : Int) (k : V → Heap → Option R) : funK tt (cmp_Compare_int_E R cmp_isNaN_int) (cmp_Compare_int_T R) false Tryd.f66 (codeOf Tryd.f66) [.int .i64 x1, .int .i64 x2] [] k =
    cmp_Compare_int_X cmp_isNaN_int x1 x2 (fun q0 => k (.int .i64 q0) []) := by kernel_rfl
theorem cmp_Compare_int_loops (R : Type) : ∀ a ∈ loopsOf (codeOf Tryd.f66), LoopOk tt (cmp_Compare_int_E R cmp_isNaN_int) (cmp_Compare_int_T R) 0 a := by
  refine loops_ok 0 (by kernel_rfl) fun i hi => ?_
  omega
theorem cmp_Compare_int_S_ok (R : Type) (other : Yard.Spec R) (ho : Yard.Spec.Ok Tryd.prog 66 other) : Yard.Spec.Ok Tryd.prog 66 (specBy cmp_Compare_int_p cmp_Compare_int_q (cmp_Compare_int_rr cmp_Compare_int) other) :=
  specBy_ok ho (funK_sound TT mixed (cmp_Compare_int_EOk R) (keep := false) rfl rfl rfl rfl 0 (cmp_Compare_int_loops R)) fun (x : Pat.dens cmp_Compare_int_p) (y : HPat.dens cmp_Compare_int_q) k => cmp_Compare_int_ok cmp_isNaN_int x.1 x.2.1 k

/-! ### humpyard/decimal.sign -/
abbrev decimal_sign_ty (R : Type) : Type := Int → (Int → Option R) → Option R
abbrev decimal_sign_p : List Pat := [.leaf (.int .i64)]
abbrev decimal_sign_q : List HPat := []
noncomputable def decimal_sign_rr {R : Type} (fn : decimal_sign_ty R) : Pat.dens decimal_sign_p → HPat.dens decimal_sign_q → (V → Heap → Option R) → Option R := fun x y k => fn x.1 (fun q0 => k (.int .i64 q0) [])
noncomputable def decimal_sign_E (R : Type) (cmp_Compare_int : cmp_Compare_int_ty R) : Env R := fun i => match i with
  | 66 => some (true, (specBy cmp_Compare_int_p cmp_Compare_int_q (cmp_Compare_int_rr cmp_Compare_int) specNo))
  | _ => none
theorem decimal_sign_EOk (R : Type) : EOk Tryd.prog (decimal_sign_E R cmp_Compare_int) := by
  intro i b sp h
  unfold decimal_sign_E at h
  split at h
  · cases h; exact ⟨(cmp_Compare_int_S_ok R _ (specNo_ok _)), fun h => nomatch h⟩
  · cases h

noncomputable def decimal_sign_T (R : Type) : Nat → Option (Hint × LSpec R) := fun i => match i with
  | _ => none

noncomputable def decimal_sign_X {R : Type} (cmp_Compare_int : cmp_Compare_int_ty R) (x1 : Int) (k0 : Int → Option R) : Option R :=
  cmp_Compare_int x1 0 (fun y2 => k0 y2)
noncomputable def decimal_sign {R : Type} : decimal_sign_ty R := fun x1 k0 => decimal_sign_X cmp_Compare_int x1 k0
theorem decimal_sign_ok {R : Type} (cmp_Compare_int : cmp_Compare_int_ty R) (x1 : Int) (k : V → Heap → Option R) : funK tt (decimal_sign_E R cmp_Compare_int) (decimal_sign_T R) false Tryd.f65 (codeOf Tryd.f65) [.int .i64 x1] [] k =
    decimal_sign_X cmp_Compare_int x1 (fun q0 => k (.int .i64 q0) []) := by kernel_rfl
theorem decimal_sign_loops (R : Type) : ∀ a ∈ loopsOf (codeOf Tryd.f65), LoopOk tt (decimal_sign_E R cmp_Compare_int) (decimal_sign_T R) 0 a := by
  refine loops_ok 0 (by kernel_rfl) fun i hi => ?_
  omega
theorem decimal_sign_S_ok (R : Type) (other : Yard.Spec R) (ho : Yard.Spec.Ok Tryd.prog 65 other) : Yard.Spec.Ok Tryd.prog 65 (specBy decimal_sign_p decimal_sign_q (decimal_sign_rr decimal_sign) other) :=
  specBy_ok ho (funK_sound TT mixed (decimal_sign_EOk R) (keep := false) rfl rfl rfl rfl 0 (decimal_sign_loops R)) fun (x : Pat.dens decimal_sign_p) (y : HPat.dens decimal_sign_q) k => decimal_sign_ok cmp_Compare_int x.1 k

/-! ### humpyard/decimal.size -/
abbrev decimal_size_ty (R : Type) : Type := Dcm → (Int → Option R) → Option R
abbrev decimal_size_p : List Pat := [.agg [.int .i64, .int .i64]]
abbrev decimal_size_q : List HPat := []
noncomputable def decimal_size_rr {R : Type} (fn : decimal_size_ty R) : Pat.dens decimal_size_p → HPat.dens decimal_size_q → (V → Heap → Option R) → Option R := fun x y k => fn (⟨x.1.1, x.1.2.1⟩ : Dcm) (fun q0 => k (.int .i64 q0) [])
noncomputable def decimal_size_E (R : Type) : Env R := fun i => match i with
  | 56 => some (true, (itoa_S R))
  | _ => none
theorem decimal_size_EOk (R : Type) : EOk Tryd.prog (decimal_size_E R) := by
  intro i b sp h
  unfold decimal_size_E at h
  split at h
  · cases h; exact ⟨(itoa_ok), fun h => nomatch h⟩
  · cases h

noncomputable def decimal_size_T (R : Type) : Nat → Option (Hint × LSpec R) := fun i => match i with
  | _ => none

noncomputable def decimal_size_X {R : Type} (x1 : Dcm) (k0 : Int → Option R) : Option R :=
  k0 (IntKind.i64.wrap (((itoaS (max x1.mant (IntKind.i64.wrap (0 - x1.mant)))).length : Int) + x1.exp))
noncomputable def decimal_size {R : Type} : decimal_size_ty R := fun x1 k0 => decimal_size_X x1 k0
theorem decimal_size_ok {R : Type} (x1 : Dcm) (k : V → Heap → Option R) : funK tt (decimal_size_E R) (decimal_size_T R) false Tryd.f67 (codeOf Tryd.f67) [.agg [.int .i64 x1.mant, .int .i64 x1.exp]] [] k =
    decimal_size_X x1 (fun q0 => k (.int .i64 q0) []) := by kernel_rfl
theorem decimal_size_loops (R : Type) : ∀ a ∈ loopsOf (codeOf Tryd.f67), LoopOk tt (decimal_size_E R) (decimal_size_T R) 0 a := by
  refine loops_ok 0 (by kernel_rfl) fun i hi => ?_
  omega
theorem decimal_size_S_ok (R : Type) (other : Yard.Spec R) (ho : Yard.Spec.Ok Tryd.prog 67 other) : Yard.Spec.Ok Tryd.prog 67 (specBy decimal_size_p decimal_size_q (decimal_size_rr decimal_size) other) :=
  specBy_ok ho (funK_sound TT mixed (decimal_size_EOk R) (keep := false) rfl rfl rfl rfl 0 (decimal_size_loops R)) fun (x : Pat.dens decimal_size_p) (y : HPat.dens decimal_size_q) k => decimal_size_ok (⟨x.1.1, x.1.2.1⟩ : Dcm) k

end Go.Proofs.YtifgegmnngfckaaDoor

/-
  Decimals: Make's loop, and the one form of a number; DecimalMoves. Own work.
-/
set_option linter.unusedVariables false
set_option maxRecDepth 100000
namespace Go.Proofs.YtifgegmnngfckaaDoor
open Go Go.Yard

theorem pick01 {R : Type} (c n : Int) (hc : I64 c) (h0 : 0 < n) (hn : n ≤ 9223372036854775807) : ∃ r : Int, 0 ≤ r ∧ r < n ∧ ∀ k : Int → Option R, law01_pick c n k = k r := pick_raw c n hc h0 hn

/-- A number and its noughts. -/
theorem strip_ex : ∀ (b : Nat) (m : Int), m ≠ 0 → m.natAbs < b → ∃ (j : Nat) (u : Int), m = u * 10 ^ j ∧ Int.tmod u 10 ≠ 0
  | 0, m, _, h => by omega
  | b + 1, m, h0, hb => by
    by_cases h : Int.tmod m 10 = 0
    · have hd : m = Int.tdiv m 10 * 10 := by have := Int.tmod_add_mul_tdiv m 10; omega
      have hn : (Int.tdiv m 10).natAbs < m.natAbs := by rw [Int.natAbs_tdiv]; show m.natAbs / 10 < m.natAbs; omega
      obtain ⟨j, u, e, hu⟩ := strip_ex b (Int.tdiv m 10) (by omega) (by omega)
      refine ⟨j + 1, u, ?_, hu⟩
      rw [Int.pow_succ, ← Int.mul_assoc, ← e]
      exact hd
    · exact ⟨0, m, by simp, h⟩

theorem strip_one : ∀ (i j : Nat) (u v : Int), Int.tmod u 10 ≠ 0 → Int.tmod v 10 ≠ 0 → u * 10 ^ i = v * 10 ^ j → i = j ∧ u = v
  | 0, 0, u, v, _, _, h => ⟨rfl, by simpa using h⟩
  | 0, j + 1, u, v, hu, _, h => by
    exfalso
    apply hu
    have : u = (v * 10 ^ j) * 10 := by rw [Int.pow_succ, ← Int.mul_assoc] at h; simpa using h
    rw [this]
    exact Int.mul_tmod_left _ _
  | i + 1, 0, u, v, _, hv, h => by
    exfalso
    apply hv
    have : v = (u * 10 ^ i) * 10 := by rw [Int.pow_succ, ← Int.mul_assoc] at h; simpa using h.symm
    rw [this]
    exact Int.mul_tmod_left _ _
  | i + 1, j + 1, u, v, hu, hv, h => by
    have h2 : u * 10 ^ i = v * 10 ^ j := by
      rw [Int.pow_succ, Int.pow_succ, ← Int.mul_assoc, ← Int.mul_assoc] at h
      omega
    obtain ⟨h3, h4⟩ := strip_one i j u v hu hv h2
    exact ⟨by omega, h4⟩

theorem pow_pos10 (j : Nat) : (1 : Int) ≤ 10 ^ j := by
  induction j with
  | zero => simp
  | succ j ih => rw [Int.pow_succ]; omega

theorem abs_le_mul (u : Int) (j : Nat) : u.natAbs ≤ (u * 10 ^ j).natAbs := by
  rw [Int.natAbs_mul]
  have h := pow_pos10 j
  have : 1 ≤ ((10 : Int) ^ j).natAbs := by omega
  exact Nat.le_mul_of_pos_right _ this

/-- So many noughts go into a number. -/
theorem noughts_le (u : Int) (hu : u ≠ 0) : ∀ j : Nat, j ≤ (u * 10 ^ j).natAbs := by
  intro j
  rw [Int.natAbs_mul]
  have h1 : 1 ≤ u.natAbs := by omega
  have h2 : j ≤ ((10 : Int) ^ j).natAbs := by
    induction j with
    | zero => simp
    | succ j ih =>
      have := pow_pos10 j
      rw [Int.pow_succ, Int.natAbs_mul]
      show j + 1 ≤ ((10 : Int) ^ j).natAbs * 10
      omega
  calc j ≤ ((10 : Int) ^ j).natAbs := h2
    _ ≤ u.natAbs * ((10 : Int) ^ j).natAbs := Nat.le_mul_of_pos_left _ h1

theorem noughts_pow (u : Int) (hu : u ≠ 0) (j : Nat) : 2 ^ j ≤ (u * 10 ^ j).natAbs := by
  rw [Int.natAbs_mul]
  have h2 : ∀ j : Nat, 2 ^ j ≤ ((10 : Int) ^ j).natAbs := by
    intro j
    induction j with
    | zero => simp
    | succ j ih =>
      rw [Int.pow_succ, Int.natAbs_mul, Nat.pow_succ]
      show 2 ^ j * 2 ≤ ((10 : Int) ^ j).natAbs * 10
      omega
  exact Nat.le_trans (h2 j) (Nat.le_mul_of_pos_left _ (by omega))

theorem noughts_64 {u : Int} (hu : u ≠ 0) {j : Nat} (hb : I64 (u * 10 ^ j)) : j < 64 := by
  have h := noughts_pow u hu j
  unfold I64 at hb
  rcases Nat.lt_or_ge j 64 with h1 | h1
  · exact h1
  · have h2 : (2 : Nat) ^ 64 ≤ 2 ^ j := Nat.pow_le_pow_right (by omega) h1
    have h3 : (2 : Nat) ^ 64 = 18446744073709551616 := rfl
    omega

theorem make_loop {R : Type} (d : Dcm) (e0 : Int → Int → Dcm → Option R) : ∀ (j n : Nat) (u x : Int), j < n → Int.tmod u 10 ≠ 0 → I64 (u * 10 ^ j) → -4000000000000000000 ≤ x → x + j ≤ 4000000000000000000 →
    decimal_Make_4_0_L n (u * 10 ^ j) x d e0 = e0 u (x + j) d := by
  intro j
  induction j with
  | zero =>
    intro n u x hn hu hb h1 h2
    obtain ⟨m, rfl⟩ : ∃ m, n = m + 1 := ⟨n - 1, by omega⟩
    have e : decimal_Make_4_0_L (m + 1) (u * 10 ^ 0) x d e0 = decimal_Make_4_0_B (fun x0' x1' x2' => decimal_Make_4_0_L m x0' x1' x2' e0) (u * 10 ^ 0) x d e0 := rfl
    rw [e]
    unfold decimal_Make_4_0_B
    have e1 : u * 10 ^ 0 = u := by simp
    have e2 : (Int.tmod u 10 == 0) = false := by rw [beq_eq_false_iff_ne]; exact hu
    rw [e1, e2, cond_false]
    simp
  | succ j ih =>
    intro n u x hn hu hb h1 h2
    obtain ⟨m, rfl⟩ : ∃ m, n = m + 1 := ⟨n - 1, by omega⟩
    have e : decimal_Make_4_0_L (m + 1) (u * 10 ^ (j + 1)) x d e0 = decimal_Make_4_0_B (fun x0' x1' x2' => decimal_Make_4_0_L m x0' x1' x2' e0) (u * 10 ^ (j + 1)) x d e0 := rfl
    rw [e]
    unfold decimal_Make_4_0_B
    have ep : u * 10 ^ (j + 1) = u * 10 ^ j * 10 := by rw [Int.pow_succ, Int.mul_assoc]
    unfold I64 at hb
    rw [ep] at hb ⊢
    have e1 : (Int.tmod (u * 10 ^ j * 10) 10 == 0) = true := by rw [Int.mul_tmod_left]; rfl
    have e2 : Int.tdiv (u * 10 ^ j * 10) 10 = u * 10 ^ j := Int.mul_tdiv_cancel _ (by omega)
    rw [e1, cond_true, e2, wrap_id (n := u * 10 ^ j) (by omega) (by omega), wrap_id (n := x + 1) (by omega) (by omega)]
    show decimal_Make_4_0_L m (u * 10 ^ j) (x + 1) d e0 = _
    rw [ih m u (x + 1) (by omega) hu (by unfold I64; omega) (by omega) (by omega)]
    have : x + 1 + (j : Int) = x + ((j + 1 : Nat) : Int) := by omega
    rw [this]

theorem within_ok {R : Type} (a b c : Int) (k : Bool → Option R) : decimal_within_int a b c k = k (decide (a ≤ b) && decide (b ≤ c)) := by
  have e : decimal_within_int a b c k = decimal_within_int_X a b c k := rfl
  rw [e]
  unfold decimal_within_int_X
  by_cases h1 : a ≤ b
  · rw [dtrue h1]; first | rfl | simp
  · rw [dfalse h1]; first | rfl | simp

/-- What Make answers for a number with its noughts. -/
def mkD (u x : Int) : Dcm × Bool := if -1000000000000000 ≤ u ∧ u ≤ 1000000000000000 ∧ -9 ≤ x ∧ x ≤ 9 then (⟨u, x⟩, true) else (⟨0, 0⟩, false)

theorem make_ok {R : Type} (u : Int) (j : Nat) (x : Int) (hu : Int.tmod u 10 ≠ 0) (hb : I64 (u * 10 ^ j)) (h1 : -4000000000000000000 ≤ x) (h2 : x ≤ 1000000) (k : Dcm → Bool → Option R) :
    decimal_Make (u * 10 ^ j) x k = k (mkD u (x + j)).1 (mkD u (x + j)).2 := by
  have e : decimal_Make (u * 10 ^ j) x k = decimal_Make_X decimal_within_int decimal_Make_4_0_L (u * 10 ^ j) x k := rfl
  rw [e]
  unfold decimal_Make_X
  have hu0 : u ≠ 0 := by rintro rfl; exact hu rfl
  have ha := abs_le_mul u j
  have hn := noughts_le u hu0 j
  have h64 := noughts_64 hu0 hb
  have h0 : (u * 10 ^ j == 0) = false := by rw [beq_eq_false_iff_ne]; omega
  have hm : min x 1000000 = x := Int.min_eq_left h2
  unfold I64 at hb
  rw [h0, cond_false, hm, make_loop _ _ j _ u x (by omega) hu (by unfold I64; exact hb) h1 (by omega)]
  rw [within_ok]
  unfold mkD
  by_cases c1 : -1000000000000000 ≤ u ∧ u ≤ 1000000000000000
  · rw [dtrue c1.1, dtrue c1.2]
    simp only [Bool.and_self, Bool.not_true, cond_false]
    rw [within_ok]
    by_cases c2 : -9 ≤ x + (j : Int) ∧ x + (j : Int) ≤ 9
    · rw [dtrue c2.1, dtrue c2.2, if_pos ⟨c1.1, c1.2, c2.1, c2.2⟩]
      rfl
    · rw [if_neg (fun h => c2 h.2.2)]
      have : (decide (-9 ≤ x + (j : Int)) && decide (x + (j : Int) ≤ 9)) = false := by
        rw [Bool.and_eq_false_iff, decide_eq_false_iff_not, decide_eq_false_iff_not]; omega
      rw [this]
      rfl
  · rw [if_neg (fun h => c1 ⟨h.1, h.2.1⟩)]
    have : (decide (-1000000000000000 ≤ u) && decide (u ≤ 1000000000000000)) = false := by
      rw [Bool.and_eq_false_iff, decide_eq_false_iff_not, decide_eq_false_iff_not]; omega
    rw [this]
    rfl

theorem make_zero {R : Type} (x : Int) (k : Dcm → Bool → Option R) : decimal_Make 0 x k = k ⟨0, 0⟩ true := by
  have e : decimal_Make 0 x k = decimal_Make_X decimal_within_int decimal_Make_4_0_L 0 x k := rfl
  rw [e]
  rfl

theorem right_mk {R : Type} {u x : Int} (hu : Int.tmod u 10 ≠ 0) (h : -1000000000000000 ≤ u ∧ u ≤ 1000000000000000 ∧ -9 ≤ x ∧ x ≤ 9) (k : Bool → Option R) : decimal_Right ⟨u, x⟩ k = k true := by
  have e : decimal_Right ⟨u, x⟩ k = decimal_Right_X decimal_within_int ⟨u, x⟩ k := rfl
  rw [e]
  unfold decimal_Right_X
  have hu0 : u ≠ 0 := by rintro rfl; exact hu rfl
  have e1 : (u == 0) = false := by rw [beq_eq_false_iff_ne]; exact hu0
  have e2 : (Int.tmod u 10 != 0) = true := bne_iff_ne.2 hu
  simp only [e1, e2, cond_false, cond_true, within_ok]
  rw [dtrue h.1, dtrue h.2.1, dtrue h.2.2.1, dtrue h.2.2.2]
  rfl

/-! ### DecimalMoves -/
theorem moves_loop {R : Type} {nr : Int} {p : Int} (p0 : 0 ≤ p) (p1 : p < 4) (hp : ∀ k : Int → Option R, law01_pick nr 4 k = k p) (y : Bool) (ex : Int) (ok : Bool) (d : Dcm) (m : Int) (hm : -1000000000000 ≤ m ∧ m ≤ 1000000000000)
    (e0 : Int → Bool → Int → Bool → Int → Dcm → Option R) : ∀ (n i : Nat), (i : Int) ≤ p → p.toNat - i < n →
    law01_DecimalMoves_7_0_L n nr y ex ok (m * 10 ^ i) (i : Int) d e0 = e0 nr y ex ok (m * 10 ^ p.toNat) d := by
  intro n
  induction n with
  | zero => intro i h1 h2; omega
  | succ n ih =>
    intro i h1 h2
    have e : law01_DecimalMoves_7_0_L (n + 1) nr y ex ok (m * 10 ^ i) (i : Int) d e0 = law01_DecimalMoves_7_0_B law01_pick (fun x0' x1' x2' x3' x4' x5' x6' => law01_DecimalMoves_7_0_L n x0' x1' x2' x3' x4' x5' x6' e0) nr y ex ok (m * 10 ^ i) (i : Int) d e0 := rfl
    rw [e]
    unfold law01_DecimalMoves_7_0_B
    rw [hp]
    by_cases hi : (i : Int) < p
    · rw [dtrue hi, cond_true]
      have hb : (m * 10 ^ i).natAbs ≤ 1000000000000000 := by
        have h3 : i = 0 ∨ i = 1 ∨ i = 2 := by omega
        rcases h3 with rfl | rfl | rfl <;> simp <;> omega
      have e1 : 10 * (m * 10 ^ i) = m * 10 ^ (i + 1) := by rw [Int.pow_succ, Int.mul_comm 10, Int.mul_assoc]
      rw [wrap_id (n := 10 * (m * 10 ^ i)) (by omega) (by omega), wrap_id (n := (i : Int) + 1) (by omega) (by omega), e1]
      exact ih (i + 1) (by omega) (by omega)
    · rw [dfalse hi, cond_false]
      have : i = p.toNat := by omega
      rw [this]

theorem decimalMoves_true {R : Type} (mant ex nr : Int) (hm : Small 1048576 (.int .i64 mant)) (he : Small 1048576 (.int .i64 ex)) (hn : Small 1048576 (.int .i64 nr)) (k : Bool → Option R) : law01_DecimalMoves mant ex nr k = k true := by
  have e : law01_DecimalMoves mant ex nr k = law01_DecimalMoves_X law01_awake decimal_Right law01_pick decimal_Make law01_DecimalMoves_7_0_L mant ex nr k := rfl
  rw [e]
  unfold law01_DecimalMoves_X
  rw [awake01]
  obtain ⟨a, a0, a1, ha⟩ := pick01 (R := R) mant 2000000000001 (i64_has.1 hm.int_inv) (by omega) (by omega)
  obtain ⟨b, b0, b1, hb⟩ := pick01 (R := R) ex 30 (i64_has.1 he.int_inv) (by omega) (by omega)
  obtain ⟨p, p0, p1, hp⟩ := pick01 (R := R) nr 4 (i64_has.1 hn.int_inv) (by omega) (by omega)
  rw [ha, hb, wrap_id (n := a - 1000000000000) (by omega) (by omega), wrap_id (n := b - 15) (by omega) (by omega)]
  generalize hM : a - 1000000000000 = m
  generalize hE : b - 15 = x
  have loop : ∀ (F : Nat) (ok : Bool) (d : Dcm) (e0 : Int → Bool → Int → Bool → Int → Dcm → Option R), 4 ≤ F → law01_DecimalMoves_7_0_L F nr true x ok m 0 d e0 = e0 nr true x ok (m * 10 ^ p.toNat) d := by
    intro F ok d e0 hF
    have := moves_loop p0 p1 hp true x ok d m ⟨by omega, by omega⟩ e0 F 0 (by omega) (by omega)
    simpa using this
  have hpn : (p.toNat : Int) = p := by omega
  by_cases h0 : m = 0
  · subst h0
    rw [make_zero, loop _ _ _ _ (by omega), hp, Int.zero_mul, make_zero]
    rfl
  · obtain ⟨j, u, hu, hd⟩ := strip_ex (m.natAbs + 1) m h0 (by omega)
    have hb2 : (m * 10 ^ p.toNat).natAbs ≤ 1000000000000000 := by
      have h3 : p.toNat = 0 ∨ p.toNat = 1 ∨ p.toNat = 2 ∨ p.toNat = 3 := by omega
      rcases h3 with h | h | h | h <;> rw [h] <;> simp <;> omega
    have h1 : ∀ k' : Dcm → Bool → Option R, decimal_Make m x k' = k' (mkD u (x + j)).1 (mkD u (x + j)).2 := fun k' => by
      rw [hu]; exact make_ok u j x hd (by rw [← hu]; unfold I64; omega) (by omega) (by omega) k'
    have e2 : m * 10 ^ p.toNat = u * 10 ^ (j + p.toNat) := by rw [hu, Int.pow_add, Int.mul_assoc]
    have h2 : ∀ k' : Dcm → Bool → Option R, decimal_Make (m * 10 ^ p.toNat) (x - p) k' = k' (mkD u (x + j)).1 (mkD u (x + j)).2 := fun k' => by
      rw [e2, make_ok u (j + p.toNat) (x - p) hd (by rw [← e2]; unfold I64; omega) (by omega) (by omega) k']
      have : x - p + ((j + p.toNat : Nat) : Int) = x + (j : Int) := by omega
      rw [this]
    rw [h1, loop _ _ _ _ (by omega), hp, wrap_id (n := x - p) (by omega) (by omega), h2]
    unfold mkD
    by_cases hc : -1000000000000000 ≤ u ∧ u ≤ 1000000000000000 ∧ -9 ≤ x + (j : Int) ∧ x + (j : Int) ≤ 9
    · rw [if_pos hc]
      simp only [BEq.rfl, cond_true, Bool.and_self, Bool.not_true, cond_false]
      exact right_mk hd hc k
    · rw [if_neg hc]
      rfl
end Go.Proofs.YtifgegmnngfckaaDoor

/-
  Functions of the program as pure Lean functions, and the ties; printed by wip/tools/emit.py.
-/
set_option maxRecDepth 100000
set_option linter.unusedVariables false
namespace Go.Proofs.YtifgegmnngfckaaDoor
open Go Go.Yard

/-! ### humpyard/decimal.Compare -/
abbrev decimal_Compare_ty (R : Type) : Type := Dcm → Dcm → (Int → Option R) → Option R
abbrev decimal_Compare_p : List Pat := [.agg [.int .i64, .int .i64], .agg [.int .i64, .int .i64]]
abbrev decimal_Compare_q : List HPat := []
noncomputable def decimal_Compare_rr {R : Type} (fn : decimal_Compare_ty R) : Pat.dens decimal_Compare_p → HPat.dens decimal_Compare_q → (V → Heap → Option R) → Option R := fun x y k => fn (⟨x.1.1, x.1.2.1⟩ : Dcm) (⟨x.2.1.1, x.2.1.2.1⟩ : Dcm) (fun q0 => k (.int .i64 q0) [])
noncomputable def decimal_Compare_E (R : Type) (decimal_Right : decimal_Right_ty R) (decimal_sign : decimal_sign_ty R) (cmp_Compare_int : cmp_Compare_int_ty R) (decimal_size : decimal_size_ty R) (decimal_shifted : decimal_shifted_ty R) : Env R := fun i => match i with
  | 30 => some (true, (specBy decimal_Right_p decimal_Right_q (decimal_Right_rr decimal_Right) specNo))
  | 65 => some (true, (specBy decimal_sign_p decimal_sign_q (decimal_sign_rr decimal_sign) specNo))
  | 66 => some (true, (specBy cmp_Compare_int_p cmp_Compare_int_q (cmp_Compare_int_rr cmp_Compare_int) specNo))
  | 67 => some (true, (specBy decimal_size_p decimal_size_q (decimal_size_rr decimal_size) specNo))
  | 68 => some (true, (specBy decimal_shifted_p decimal_shifted_q (decimal_shifted_rr decimal_shifted) specNo))
  | _ => none
theorem decimal_Compare_EOk (R : Type) : EOk Tryd.prog (decimal_Compare_E R decimal_Right decimal_sign cmp_Compare_int decimal_size decimal_shifted) := by
  intro i b sp h
  unfold decimal_Compare_E at h
  split at h
  · cases h; exact ⟨(decimal_Right_S_ok R _ (specNo_ok _)), fun h => nomatch h⟩
  · cases h; exact ⟨(decimal_sign_S_ok R _ (specNo_ok _)), fun h => nomatch h⟩
  · cases h; exact ⟨(cmp_Compare_int_S_ok R _ (specNo_ok _)), fun h => nomatch h⟩
  · cases h; exact ⟨(decimal_size_S_ok R _ (specNo_ok _)), fun h => nomatch h⟩
  · cases h; exact ⟨(decimal_shifted_S_ok R _ (specNo_ok _)), fun h => nomatch h⟩
  · cases h

noncomputable def decimal_Compare_T (R : Type) : Nat → Option (Hint × LSpec R) := fun i => match i with
  | _ => none

noncomputable def decimal_Compare_X {R : Type} (decimal_Right : decimal_Right_ty R) (decimal_sign : decimal_sign_ty R) (cmp_Compare_int : cmp_Compare_int_ty R) (decimal_size : decimal_size_ty R) (decimal_shifted : decimal_shifted_ty R) (x1 : Dcm) (x2 : Dcm) (k0 : Int → Option R) : Option R :=
  decimal_sign x1.mant (fun y3 => let j15 := fun (z6 : Bool) => bif z6 then (k0 0) else (decimal_sign x2.mant (fun y7 => bif (y3 != y7) then (decimal_sign x2.mant (fun y8 => cmp_Compare_int y3 y8 (fun y9 => k0 y9))) else (decimal_size x1 (fun y10 => decimal_size x2 (fun y11 => bif (y10 != y11) then (decimal_size x1 (fun y12 => decimal_size x2 (fun y13 => cmp_Compare_int y12 y13 (fun y14 => k0 (IntKind.i64.wrap (y14 * y3)))))) else (decimal_shifted x1 (min x1.exp x2.exp) (fun y16 y17 => decimal_shifted x2 (min x1.exp x2.exp) (fun y18 y19 => cmp_Compare_int y16 y18 (fun y20 => k0 y20))))))))); decimal_Right x1 (fun y4 => bif (!y4) then (j15 true) else (decimal_Right x2 (fun y5 => j15 (!y5)))))
noncomputable def decimal_Compare {R : Type} : decimal_Compare_ty R := fun x1 x2 k0 => decimal_Compare_X decimal_Right decimal_sign cmp_Compare_int decimal_size decimal_shifted x1 x2 k0
theorem decimal_Compare_ok {R : Type} (decimal_Right : decimal_Right_ty R) (decimal_sign : decimal_sign_ty R) (cmp_Compare_int : cmp_Compare_int_ty R) (decimal_size : decimal_size_ty R) (decimal_shifted : decimal_shifted_ty R) (x1 : Dcm) (x2 : Dcm) (k : V → Heap → Option R) : funK tt (decimal_Compare_E R decimal_Right decimal_sign cmp_Compare_int decimal_size decimal_shifted) (decimal_Compare_T R) false Tryd.f33 (codeOf Tryd.f33) [.agg [.int .i64 x1.mant, .int .i64 x1.exp], .agg [.int .i64 x2.mant, .int .i64 x2.exp]] [] k =
    decimal_Compare_X decimal_Right decimal_sign cmp_Compare_int decimal_size decimal_shifted x1 x2 (fun q0 => k (.int .i64 q0) []) := by kernel_rfl
theorem decimal_Compare_loops (R : Type) : ∀ a ∈ loopsOf (codeOf Tryd.f33), LoopOk tt (decimal_Compare_E R decimal_Right decimal_sign cmp_Compare_int decimal_size decimal_shifted) (decimal_Compare_T R) 0 a := by
  refine loops_ok 0 (by kernel_rfl) fun i hi => ?_
  omega
theorem decimal_Compare_S_ok (R : Type) (other : Yard.Spec R) (ho : Yard.Spec.Ok Tryd.prog 33 other) : Yard.Spec.Ok Tryd.prog 33 (specBy decimal_Compare_p decimal_Compare_q (decimal_Compare_rr decimal_Compare) other) :=
  specBy_ok ho (funK_sound TT mixed (decimal_Compare_EOk R) (keep := false) rfl rfl rfl rfl 0 (decimal_Compare_loops R)) fun (x : Pat.dens decimal_Compare_p) (y : HPat.dens decimal_Compare_q) k => decimal_Compare_ok decimal_Right decimal_sign cmp_Compare_int decimal_size decimal_shifted (⟨x.1.1, x.1.2.1⟩ : Dcm) (⟨x.2.1.1, x.2.1.2.1⟩ : Dcm) k

/-! ### humpyard/humpyardlaw01.DecimalOrder$1 -/
abbrev law01_DecimalOrder_1_ty (R : Type) : Type := Dcm → (Dcm → Option R) → Option R
abbrev law01_DecimalOrder_1_p : List Pat := [.agg [.int .i64, .int .i64]]
abbrev law01_DecimalOrder_1_q : List HPat := []
noncomputable def law01_DecimalOrder_1_rr {R : Type} (fn : law01_DecimalOrder_1_ty R) : Pat.dens law01_DecimalOrder_1_p → HPat.dens law01_DecimalOrder_1_q → (V → Heap → Option R) → Option R := fun x y k => fn (⟨x.1.1, x.1.2.1⟩ : Dcm) (fun q0 => k (.agg [.int .i64 q0.mant, .int .i64 q0.exp]) [])
noncomputable def law01_DecimalOrder_1_E (R : Type) : Env R := fun i => match i with
  | _ => none
theorem law01_DecimalOrder_1_EOk (R : Type) : EOk Tryd.prog (law01_DecimalOrder_1_E R) := by
  intro i b sp h
  unfold law01_DecimalOrder_1_E at h
  split at h
  · cases h

noncomputable def law01_DecimalOrder_1_T (R : Type) : Nat → Option (Hint × LSpec R) := fun i => match i with
  | _ => none

noncomputable def law01_DecimalOrder_1_X {R : Type} (x1 : Dcm) (k0 : Dcm → Option R) : Option R :=
  k0 (⟨(IntKind.i64.wrap (0 - x1.mant)), x1.exp⟩ : Dcm)
noncomputable def law01_DecimalOrder_1 {R : Type} : law01_DecimalOrder_1_ty R := fun x1 k0 => law01_DecimalOrder_1_X x1 k0
theorem law01_DecimalOrder_1_ok {R : Type} (x1 : Dcm) (k : V → Heap → Option R) : funK tt (law01_DecimalOrder_1_E R) (law01_DecimalOrder_1_T R) false Tryd.f34 (codeOf Tryd.f34) [.agg [.int .i64 x1.mant, .int .i64 x1.exp]] [] k =
    law01_DecimalOrder_1_X x1 (fun q0 => k (.agg [.int .i64 q0.mant, .int .i64 q0.exp]) []) := by kernel_rfl
theorem law01_DecimalOrder_1_loops (R : Type) : ∀ a ∈ loopsOf (codeOf Tryd.f34), LoopOk tt (law01_DecimalOrder_1_E R) (law01_DecimalOrder_1_T R) 0 a := by
  refine loops_ok 0 (by kernel_rfl) fun i hi => ?_
  omega
theorem law01_DecimalOrder_1_S_ok (R : Type) (other : Yard.Spec R) (ho : Yard.Spec.Ok Tryd.prog 34 other) : Yard.Spec.Ok Tryd.prog 34 (specBy law01_DecimalOrder_1_p law01_DecimalOrder_1_q (law01_DecimalOrder_1_rr law01_DecimalOrder_1) other) :=
  specBy_ok ho (funK_sound TT mixed (law01_DecimalOrder_1_EOk R) (keep := false) rfl rfl rfl rfl 0 (law01_DecimalOrder_1_loops R)) fun (x : Pat.dens law01_DecimalOrder_1_p) (y : HPat.dens law01_DecimalOrder_1_q) k => law01_DecimalOrder_1_ok (⟨x.1.1, x.1.2.1⟩ : Dcm) k

/-! ### humpyard/humpyardlaw01.DecimalOrder -/
abbrev law01_DecimalOrder_ty (R : Type) : Type := Arr2 → Arr2 → Arr2 → (Bool → Option R) → Option R
abbrev law01_DecimalOrder_p : List Pat := [.agg [.int .i64, .int .i64], .agg [.int .i64, .int .i64], .agg [.int .i64, .int .i64]]
abbrev law01_DecimalOrder_q : List HPat := []
noncomputable def law01_DecimalOrder_rr {R : Type} (fn : law01_DecimalOrder_ty R) : Pat.dens law01_DecimalOrder_p → HPat.dens law01_DecimalOrder_q → (V → Heap → Option R) → Option R := fun x y k => fn (⟨x.1.1, x.1.2.1⟩ : Arr2) (⟨x.2.1.1, x.2.1.2.1⟩ : Arr2) (⟨x.2.2.1.1, x.2.2.1.2.1⟩ : Arr2) (fun q0 => k (.bool q0) [])
noncomputable def law01_DecimalOrder_E (R : Type) (law01_awake : law01_awake_ty R) (law01_Fit : law01_Fit_ty R) (decimal_Compare : decimal_Compare_ty R) (law01_DecimalOrder_1 : law01_DecimalOrder_1_ty R) : Env R := fun i => match i with
  | 26 => some (true, (specBy law01_awake_p law01_awake_q (law01_awake_rr law01_awake) specNo))
  | 27 => some (true, (specBy law01_Fit_p law01_Fit_q (law01_Fit_rr law01_Fit) specNo))
  | 33 => some (true, (specBy decimal_Compare_p decimal_Compare_q (decimal_Compare_rr decimal_Compare) specNo))
  | 34 => some (true, (specBy law01_DecimalOrder_1_p law01_DecimalOrder_1_q (law01_DecimalOrder_1_rr law01_DecimalOrder_1) specNo))
  | _ => none
theorem law01_DecimalOrder_EOk (R : Type) : EOk Tryd.prog (law01_DecimalOrder_E R law01_awake law01_Fit decimal_Compare law01_DecimalOrder_1) := by
  intro i b sp h
  unfold law01_DecimalOrder_E at h
  split at h
  · cases h; exact ⟨(law01_awake_S_ok R _ (specNo_ok _)), fun h => nomatch h⟩
  · cases h; exact ⟨(law01_Fit_S_ok R _ (specNo_ok _)), fun h => nomatch h⟩
  · cases h; exact ⟨(decimal_Compare_S_ok R _ (specNo_ok _)), fun h => nomatch h⟩
  · cases h; exact ⟨(law01_DecimalOrder_1_S_ok R _ (specNo_ok _)), fun h => nomatch h⟩
  · cases h

noncomputable def law01_DecimalOrder_T (R : Type) : Nat → Option (Hint × LSpec R) := fun i => match i with
  | _ => none

noncomputable def law01_DecimalOrder_X {R : Type} (law01_awake : law01_awake_ty R) (law01_Fit : law01_Fit_ty R) (decimal_Compare : decimal_Compare_ty R) (law01_DecimalOrder_1 : law01_DecimalOrder_1_ty R) (x1 : Arr2) (x2 : Arr2) (x3 : Arr2) (k0 : Bool → Option R) : Option R :=
  law01_awake (fun y4 => law01_Fit x1.a x1.b (fun y5 => law01_Fit x2.a x2.b (fun y6 => law01_Fit x3.a x3.b (fun y7 => decimal_Compare y5 y6 (fun y8 => decimal_Compare y6 y7 (fun y9 => decimal_Compare y5 y7 (fun y10 => bif (!y4) then (k0 false) else (bif (decide (y8 < (-1 : Int))) then (k0 false) else (bif (decide (y8 > (1 : Int))) then (k0 false) else (decimal_Compare y6 y5 (fun y11 => bif (y11 != (IntKind.i64.wrap (0 - y8))) then (k0 false) else (law01_DecimalOrder_1 y5 (fun y12 => law01_DecimalOrder_1 y6 (fun y13 => decimal_Compare y12 y13 (fun y14 => bif (y14 != (IntKind.i64.wrap (0 - y8))) then (k0 false) else (bif (!((y8 == 0) == (y5.mant == y6.mant && (y5.exp == y6.exp && true)))) then (k0 false) else (bif (decide (y8 > (0 : Int))) then (bif (decide (y8 < (0 : Int))) then (k0 true) else (bif (decide (y9 < (0 : Int))) then (k0 true) else (k0 (decide (y10 ≥ (0 : Int)))))) else (bif (decide (y9 > (0 : Int))) then (bif (decide (y8 < (0 : Int))) then (k0 true) else (bif (decide (y9 < (0 : Int))) then (k0 true) else (k0 (decide (y10 ≥ (0 : Int)))))) else (bif (decide (y10 ≤ (0 : Int))) then (bif (decide (y8 < (0 : Int))) then (k0 true) else (bif (decide (y9 < (0 : Int))) then (k0 true) else (k0 (decide (y10 ≥ (0 : Int)))))) else (k0 false))))))))))))))))))))
noncomputable def law01_DecimalOrder {R : Type} : law01_DecimalOrder_ty R := fun x1 x2 x3 k0 => law01_DecimalOrder_X law01_awake law01_Fit decimal_Compare law01_DecimalOrder_1 x1 x2 x3 k0
theorem law01_DecimalOrder_ok {R : Type} (law01_awake : law01_awake_ty R) (law01_Fit : law01_Fit_ty R) (decimal_Compare : decimal_Compare_ty R) (law01_DecimalOrder_1 : law01_DecimalOrder_1_ty R) (x1 : Arr2) (x2 : Arr2) (x3 : Arr2) (k : V → Heap → Option R) : funK tt (law01_DecimalOrder_E R law01_awake law01_Fit decimal_Compare law01_DecimalOrder_1) (law01_DecimalOrder_T R) false Tryd.f14 (codeOf Tryd.f14) [.agg [.int .i64 x1.a, .int .i64 x1.b], .agg [.int .i64 x2.a, .int .i64 x2.b], .agg [.int .i64 x3.a, .int .i64 x3.b]] [] k =
    law01_DecimalOrder_X law01_awake law01_Fit decimal_Compare law01_DecimalOrder_1 x1 x2 x3 (fun q0 => k (.bool q0) []) := by kernel_rfl
theorem law01_DecimalOrder_loops (R : Type) : ∀ a ∈ loopsOf (codeOf Tryd.f14), LoopOk tt (law01_DecimalOrder_E R law01_awake law01_Fit decimal_Compare law01_DecimalOrder_1) (law01_DecimalOrder_T R) 0 a := by
  refine loops_ok 0 (by kernel_rfl) fun i hi => ?_
  omega
theorem law01_DecimalOrder_S_ok (R : Type) (other : Yard.Spec R) (ho : Yard.Spec.Ok Tryd.prog 14 other) : Yard.Spec.Ok Tryd.prog 14 (specBy law01_DecimalOrder_p law01_DecimalOrder_q (law01_DecimalOrder_rr law01_DecimalOrder) other) :=
  specBy_ok ho (funK_sound TT mixed (law01_DecimalOrder_EOk R) (keep := false) rfl rfl rfl rfl 0 (law01_DecimalOrder_loops R)) fun (x : Pat.dens law01_DecimalOrder_p) (y : HPat.dens law01_DecimalOrder_q) k => law01_DecimalOrder_ok law01_awake law01_Fit decimal_Compare law01_DecimalOrder_1 (⟨x.1.1, x.1.2.1⟩ : Arr2) (⟨x.2.1.1, x.2.1.2.1⟩ : Arr2) (⟨x.2.2.1.1, x.2.2.1.2.1⟩ : Arr2) k

end Go.Proofs.YtifgegmnngfckaaDoor

/-
  Functions of the program as pure Lean functions, and the ties; printed by wip/tools/emit.py.
-/
set_option maxRecDepth 100000
set_option linter.unusedVariables false
namespace Go.Proofs.YtifgegmnngfckaaDoor
open Go Go.Yard

/-! ### humpyard/decimal.Add -/
abbrev decimal_Add_ty (R : Type) : Type := Dcm → Dcm → (Dcm → Bool → Option R) → Option R
abbrev decimal_Add_p : List Pat := [.agg [.int .i64, .int .i64], .agg [.int .i64, .int .i64]]
abbrev decimal_Add_q : List HPat := []
noncomputable def decimal_Add_rr {R : Type} (fn : decimal_Add_ty R) : Pat.dens decimal_Add_p → HPat.dens decimal_Add_q → (V → Heap → Option R) → Option R := fun x y k => fn (⟨x.1.1, x.1.2.1⟩ : Dcm) (⟨x.2.1.1, x.2.1.2.1⟩ : Dcm) (fun q0 q1 => k (.tuple [.agg [.int .i64 q0.mant, .int .i64 q0.exp], .bool q1]) [])
noncomputable def decimal_Add_E (R : Type) (decimal_Right : decimal_Right_ty R) (decimal_Make : decimal_Make_ty R) (decimal_shifted : decimal_shifted_ty R) : Env R := fun i => match i with
  | 30 => some (true, (specBy decimal_Right_p decimal_Right_q (decimal_Right_rr decimal_Right) specNo))
  | 32 => some (true, (specBy decimal_Make_p decimal_Make_q (decimal_Make_rr decimal_Make) specNo))
  | 68 => some (true, (specBy decimal_shifted_p decimal_shifted_q (decimal_shifted_rr decimal_shifted) specNo))
  | _ => none
theorem decimal_Add_EOk (R : Type) : EOk Tryd.prog (decimal_Add_E R decimal_Right decimal_Make decimal_shifted) := by
  intro i b sp h
  unfold decimal_Add_E at h
  split at h
  · cases h; exact ⟨(decimal_Right_S_ok R _ (specNo_ok _)), fun h => nomatch h⟩
  · cases h; exact ⟨(decimal_Make_S_ok R _ (specNo_ok _)), fun h => nomatch h⟩
  · cases h; exact ⟨(decimal_shifted_S_ok R _ (specNo_ok _)), fun h => nomatch h⟩
  · cases h

noncomputable def decimal_Add_T (R : Type) : Nat → Option (Hint × LSpec R) := fun i => match i with
  | _ => none

noncomputable def decimal_Add_X {R : Type} (decimal_Right : decimal_Right_ty R) (decimal_Make : decimal_Make_ty R) (decimal_shifted : decimal_shifted_ty R) (x1 : Dcm) (x2 : Dcm) (k0 : Dcm → Bool → Option R) : Option R :=
  decimal_Right x1 (fun y3 => bif (!y3) then (k0 (⟨0, 0⟩ : Dcm) false) else (decimal_Right x2 (fun y4 => bif (!y4) then (k0 (⟨0, 0⟩ : Dcm) false) else (bif (x1.mant == 0) then (k0 (⟨(IntKind.i64.wrap (x1.mant + x2.mant)), (IntKind.i64.wrap (x1.exp + x2.exp))⟩ : Dcm) true) else (bif (x2.mant == 0) then (k0 (⟨(IntKind.i64.wrap (x1.mant + x2.mant)), (IntKind.i64.wrap (x1.exp + x2.exp))⟩ : Dcm) true) else (decimal_shifted x1 (min x1.exp x2.exp) (fun y7 y8 => decimal_shifted x2 (min x1.exp x2.exp) (fun y9 y10 => bif (!y8) then (k0 (⟨0, 0⟩ : Dcm) false) else (bif (!y10) then (k0 (⟨0, 0⟩ : Dcm) false) else (decimal_Make (IntKind.i64.wrap (y7 + y9)) (min x1.exp x2.exp) (fun y12 y13 => k0 y12 y13)))))))))))
noncomputable def decimal_Add {R : Type} : decimal_Add_ty R := fun x1 x2 k0 => decimal_Add_X decimal_Right decimal_Make decimal_shifted x1 x2 k0
theorem decimal_Add_ok {R : Type} (decimal_Right : decimal_Right_ty R) (decimal_Make : decimal_Make_ty R) (decimal_shifted : decimal_shifted_ty R) (x1 : Dcm) (x2 : Dcm) (k : V → Heap → Option R) : funK tt (decimal_Add_E R decimal_Right decimal_Make decimal_shifted) (decimal_Add_T R) false Tryd.f37 (codeOf Tryd.f37) [.agg [.int .i64 x1.mant, .int .i64 x1.exp], .agg [.int .i64 x2.mant, .int .i64 x2.exp]] [] k =
    decimal_Add_X decimal_Right decimal_Make decimal_shifted x1 x2 (fun q0 q1 => k (.tuple [.agg [.int .i64 q0.mant, .int .i64 q0.exp], .bool q1]) []) := by kernel_rfl
theorem decimal_Add_loops (R : Type) : ∀ a ∈ loopsOf (codeOf Tryd.f37), LoopOk tt (decimal_Add_E R decimal_Right decimal_Make decimal_shifted) (decimal_Add_T R) 0 a := by
  refine loops_ok 0 (by kernel_rfl) fun i hi => ?_
  omega
theorem decimal_Add_S_ok (R : Type) (other : Yard.Spec R) (ho : Yard.Spec.Ok Tryd.prog 37 other) : Yard.Spec.Ok Tryd.prog 37 (specBy decimal_Add_p decimal_Add_q (decimal_Add_rr decimal_Add) other) :=
  specBy_ok ho (funK_sound TT mixed (decimal_Add_EOk R) (keep := false) rfl rfl rfl rfl 0 (decimal_Add_loops R)) fun (x : Pat.dens decimal_Add_p) (y : HPat.dens decimal_Add_q) k => decimal_Add_ok decimal_Right decimal_Make decimal_shifted (⟨x.1.1, x.1.2.1⟩ : Dcm) (⟨x.2.1.1, x.2.1.2.1⟩ : Dcm) k

end Go.Proofs.YtifgegmnngfckaaDoor

/-
  Functions of the program as pure Lean functions, and the ties; printed by wip/tools/emit.py.
-/
set_option maxRecDepth 100000
set_option linter.unusedVariables false
namespace Go.Proofs.YtifgegmnngfckaaDoor
open Go Go.Yard

/-! ### humpyard/humpyardlaw01.DecimalSums -/
abbrev law01_DecimalSums_ty (R : Type) : Type := Arr2 → Arr2 → (Bool → Option R) → Option R
abbrev law01_DecimalSums_p : List Pat := [.agg [.int .i64, .int .i64], .agg [.int .i64, .int .i64]]
abbrev law01_DecimalSums_q : List HPat := []
noncomputable def law01_DecimalSums_rr {R : Type} (fn : law01_DecimalSums_ty R) : Pat.dens law01_DecimalSums_p → HPat.dens law01_DecimalSums_q → (V → Heap → Option R) → Option R := fun x y k => fn (⟨x.1.1, x.1.2.1⟩ : Arr2) (⟨x.2.1.1, x.2.1.2.1⟩ : Arr2) (fun q0 => k (.bool q0) [])
noncomputable def law01_DecimalSums_E (R : Type) (law01_awake : law01_awake_ty R) (law01_Fit : law01_Fit_ty R) (decimal_Compare : decimal_Compare_ty R) (decimal_Add : decimal_Add_ty R) : Env R := fun i => match i with
  | 26 => some (true, (specBy law01_awake_p law01_awake_q (law01_awake_rr law01_awake) specNo))
  | 27 => some (true, (specBy law01_Fit_p law01_Fit_q (law01_Fit_rr law01_Fit) specNo))
  | 33 => some (true, (specBy decimal_Compare_p decimal_Compare_q (decimal_Compare_rr decimal_Compare) specNo))
  | 37 => some (true, (specBy decimal_Add_p decimal_Add_q (decimal_Add_rr decimal_Add) specNo))
  | _ => none
theorem law01_DecimalSums_EOk (R : Type) : EOk Tryd.prog (law01_DecimalSums_E R law01_awake law01_Fit decimal_Compare decimal_Add) := by
  intro i b sp h
  unfold law01_DecimalSums_E at h
  split at h
  · cases h; exact ⟨(law01_awake_S_ok R _ (specNo_ok _)), fun h => nomatch h⟩
  · cases h; exact ⟨(law01_Fit_S_ok R _ (specNo_ok _)), fun h => nomatch h⟩
  · cases h; exact ⟨(decimal_Compare_S_ok R _ (specNo_ok _)), fun h => nomatch h⟩
  · cases h; exact ⟨(decimal_Add_S_ok R _ (specNo_ok _)), fun h => nomatch h⟩
  · cases h

noncomputable def law01_DecimalSums_T (R : Type) : Nat → Option (Hint × LSpec R) := fun i => match i with
  | _ => none

noncomputable def law01_DecimalSums_X {R : Type} (law01_awake : law01_awake_ty R) (law01_Fit : law01_Fit_ty R) (decimal_Compare : decimal_Compare_ty R) (decimal_Add : decimal_Add_ty R) (x1 : Arr2) (x2 : Arr2) (k0 : Bool → Option R) : Option R :=
  law01_awake (fun y3 => law01_Fit x1.a x1.b (fun y4 => law01_Fit x2.a x2.b (fun y5 => decimal_Add y4 y5 (fun y6 y7 => decimal_Add y5 y4 (fun y8 y9 => decimal_Add y4 (⟨(IntKind.i64.wrap (0 - y4.mant)), y4.exp⟩ : Dcm) (fun y10 y11 => bif (!y3) then (k0 false) else (bif (!(y7 == y9)) then (k0 false) else (bif (!(y6.mant == y8.mant && (y6.exp == y8.exp && true))) then (k0 false) else (bif (!y11) then (k0 false) else (bif (!(y10.mant == 0 && (y10.exp == 0 && true))) then (k0 false) else (bif (!y7) then (k0 (y6.mant == 0 && (y6.exp == 0 && true))) else (decimal_Add y6 (⟨(IntKind.i64.wrap (0 - y5.mant)), y5.exp⟩ : Dcm) (fun y13 y14 => bif y14 then (bif (y13.mant == y4.mant && (y13.exp == y4.exp && true)) then (decimal_Compare y6 y4 (fun y15 => decimal_Compare y5 (⟨0, 0⟩ : Dcm) (fun y16 => k0 (y15 == y16)))) else (k0 false)) else (k0 false))))))))))))))
noncomputable def law01_DecimalSums {R : Type} : law01_DecimalSums_ty R := fun x1 x2 k0 => law01_DecimalSums_X law01_awake law01_Fit decimal_Compare decimal_Add x1 x2 k0
theorem law01_DecimalSums_ok {R : Type} (law01_awake : law01_awake_ty R) (law01_Fit : law01_Fit_ty R) (decimal_Compare : decimal_Compare_ty R) (decimal_Add : decimal_Add_ty R) (x1 : Arr2) (x2 : Arr2) (k : V → Heap → Option R) : funK tt (law01_DecimalSums_E R law01_awake law01_Fit decimal_Compare decimal_Add) (law01_DecimalSums_T R) false Tryd.f16 (codeOf Tryd.f16) [.agg [.int .i64 x1.a, .int .i64 x1.b], .agg [.int .i64 x2.a, .int .i64 x2.b]] [] k =
    law01_DecimalSums_X law01_awake law01_Fit decimal_Compare decimal_Add x1 x2 (fun q0 => k (.bool q0) []) := by kernel_rfl
theorem law01_DecimalSums_loops (R : Type) : ∀ a ∈ loopsOf (codeOf Tryd.f16), LoopOk tt (law01_DecimalSums_E R law01_awake law01_Fit decimal_Compare decimal_Add) (law01_DecimalSums_T R) 0 a := by
  refine loops_ok 0 (by kernel_rfl) fun i hi => ?_
  omega
theorem law01_DecimalSums_S_ok (R : Type) (other : Yard.Spec R) (ho : Yard.Spec.Ok Tryd.prog 16 other) : Yard.Spec.Ok Tryd.prog 16 (specBy law01_DecimalSums_p law01_DecimalSums_q (law01_DecimalSums_rr law01_DecimalSums) other) :=
  specBy_ok ho (funK_sound TT mixed (law01_DecimalSums_EOk R) (keep := false) rfl rfl rfl rfl 0 (law01_DecimalSums_loops R)) fun (x : Pat.dens law01_DecimalSums_p) (y : HPat.dens law01_DecimalSums_q) k => law01_DecimalSums_ok law01_awake law01_Fit decimal_Compare decimal_Add (⟨x.1.1, x.1.2.1⟩ : Arr2) (⟨x.2.1.1, x.2.1.2.1⟩ : Arr2) k

end Go.Proofs.YtifgegmnngfckaaDoor

/-
  Decimals: sums and order; DecimalSums. Own work.
-/
set_option linter.unusedVariables false
set_option maxRecDepth 100000
namespace Go.Proofs.YtifgegmnngfckaaDoor
open Go Go.Yard Go.Lib

/-- A decimal in its form. -/
def Fm (d : Dcm) : Prop := (d.mant = 0 ∧ d.exp = 0) ∨ (Int.tmod d.mant 10 ≠ 0 ∧ -1000000000000000 ≤ d.mant ∧ d.mant ≤ 1000000000000000 ∧ -9 ≤ d.exp ∧ d.exp ≤ 9)

theorem Fm.bounds {d : Dcm} (h : Fm d) : -1000000000000000 ≤ d.mant ∧ d.mant ≤ 1000000000000000 ∧ -9 ≤ d.exp ∧ d.exp ≤ 9 := by
  rcases h with h | h <;> omega
theorem Fm.nz {d : Dcm} (h : Fm d) (h0 : d.mant ≠ 0) : Int.tmod d.mant 10 ≠ 0 := by
  rcases h with h | h
  · exact (h0 h.1).elim
  · exact h.1
theorem Fm.zero {d : Dcm} (h : Fm d) (h0 : d.mant = 0) : d = ⟨0, 0⟩ := by
  rcases h with h | h
  · cases d; simp only at h; rw [h.1, h.2]
  · exact (h.1 (by rw [h0]; rfl)).elim
theorem Fm.mk0 : Fm ⟨0, 0⟩ := .inl ⟨rfl, rfl⟩
theorem tmod_neg {m : Int} (h : Int.tmod m 10 ≠ 0) : Int.tmod (-m) 10 ≠ 0 := by rw [Int.neg_tmod]; omega
theorem Fm.neg {d : Dcm} (h : Fm d) : Fm ⟨-d.mant, d.exp⟩ := by
  rcases h with h | h
  · exact .inl ⟨by simp only; omega, h.2⟩
  · exact .inr ⟨tmod_neg h.1, by simp only; omega, by simp only; omega, h.2.2.2⟩

theorem right_ok {R : Type} {d : Dcm} (h : Fm d) (k : Bool → Option R) : decimal_Right d k = k true := by
  rcases h with h | h
  · have e : decimal_Right d k = decimal_Right_X decimal_within_int d k := rfl
    rw [e]
    unfold decimal_Right_X
    rw [h.1, h.2]
    rfl
  · cases d; exact right_mk h.1 h.2 k

theorem fit_loop {R : Type} (x : Int) (d : Dcm) (e0 : Int → Int → Dcm → Option R) : ∀ (j n : Nat) (u : Int), j < n → Int.tmod u 10 ≠ 0 → I64 (u * 10 ^ j) →
    law01_Fit_3_0_L n (u * 10 ^ j) x d e0 = e0 u x d := by
  intro j
  induction j with
  | zero =>
    intro n u hn hu hb
    obtain ⟨m, rfl⟩ : ∃ m, n = m + 1 := ⟨n - 1, by omega⟩
    have e : law01_Fit_3_0_L (m + 1) (u * 10 ^ 0) x d e0 = law01_Fit_3_0_B (fun x0' x1' x2' => law01_Fit_3_0_L m x0' x1' x2' e0) (u * 10 ^ 0) x d e0 := rfl
    rw [e]
    unfold law01_Fit_3_0_B
    have e1 : u * 10 ^ 0 = u := by simp
    have e2 : (Int.tmod u 10 == 0) = false := by rw [beq_eq_false_iff_ne]; exact hu
    have e3 : (u != 0) = true := bne_iff_ne.2 (by rintro rfl; exact hu rfl)
    rw [e1, e3, cond_true, e2, cond_false]
  | succ j ih =>
    intro n u hn hu hb
    obtain ⟨m, rfl⟩ : ∃ m, n = m + 1 := ⟨n - 1, by omega⟩
    have e : law01_Fit_3_0_L (m + 1) (u * 10 ^ (j + 1)) x d e0 = law01_Fit_3_0_B (fun x0' x1' x2' => law01_Fit_3_0_L m x0' x1' x2' e0) (u * 10 ^ (j + 1)) x d e0 := rfl
    rw [e]
    unfold law01_Fit_3_0_B
    have ep : u * 10 ^ (j + 1) = u * 10 ^ j * 10 := by rw [Int.pow_succ, Int.mul_assoc]
    have hu0 : u ≠ 0 := by rintro rfl; exact hu rfl
    have hab := abs_le_mul u (j + 1)
    have e3 : (u * 10 ^ (j + 1) != 0) = true := bne_iff_ne.2 (by omega)
    unfold I64 at hb
    rw [e3, cond_true]
    rw [ep] at hb ⊢
    have e1 : (Int.tmod (u * 10 ^ j * 10) 10 == 0) = true := by rw [Int.mul_tmod_left]; rfl
    have e2 : Int.tdiv (u * 10 ^ j * 10) 10 = u * 10 ^ j := Int.mul_tdiv_cancel _ (by omega)
    rw [e1, cond_true, e2, wrap_id (n := u * 10 ^ j) (by omega) (by omega)]
    exact ih m u (by omega) hu (by unfold I64; omega)

theorem fit_ok {R : Type} (a b : Int) (ha : I64 a) (hb : I64 b) : ∃ d : Dcm, Fm d ∧ ∀ k : Dcm → Option R, law01_Fit a b k = k d := by
  obtain ⟨m, m0, m1, hm⟩ := pick01 (R := R) a 2000000000000001 ha (by omega) (by omega)
  obtain ⟨x, x0, x1, hx⟩ := pick01 (R := R) b 19 hb (by omega) (by omega)
  have e : ∀ k : Dcm → Option R, law01_Fit a b k = law01_Fit_X law01_pick law01_Fit_3_0_L a b k := fun _ => rfl
  by_cases h0 : m - 1000000000000000 = 0
  · refine ⟨⟨0, 0⟩, .mk0, fun k => ?_⟩
    rw [e]
    unfold law01_Fit_X
    rw [hm, hx, wrap_id (n := m - 1000000000000000) (by omega) (by omega), h0]
    rfl
  · obtain ⟨j, u, hu, hd⟩ := strip_ex ((m - 1000000000000000).natAbs + 1) _ h0 (by omega)
    have hab := abs_le_mul u j
    have hb64 : I64 (u * 10 ^ j) := by unfold I64; omega
    have h64 := noughts_64 (by rintro rfl; exact hd rfl) hb64
    refine ⟨⟨u, x - 9⟩, .inr ⟨hd, by simp only; omega, by simp only; omega, by simp only; omega, by simp only; omega⟩, fun k => ?_⟩
    rw [e]
    unfold law01_Fit_X
    rw [hm, hx, wrap_id (n := m - 1000000000000000) (by omega) (by omega), wrap_id (n := x - 9) (by omega) (by omega)]
    have key := fun (F : Nat) (hF : j < F) => fit_loop (R := R) (x - 9) ⟨0, 0⟩ (fun y9 y10 y11 => bif (y9 == 0) then (k (⟨y9, 0⟩ : Dcm)) else (k (⟨y9, y10⟩ : Dcm))) j F u hF hd hb64
    rw [← hu] at key
    rw [key _ (by omega)]
    have e0 : (u == 0) = false := by rw [beq_eq_false_iff_ne]; rintro rfl; exact hd rfl
    rw [e0]
    rfl

/-! ### shifted -/
def shiftP : Int → Nat → Option Int
  | m, 0 => some m
  | m, j + 1 => if -100000000000000000 ≤ m ∧ m ≤ 100000000000000000 then shiftP (m * 10) j else none

theorem shiftP_val : ∀ (j : Nat) (m v : Int), shiftP m j = some v → v = m * 10 ^ j
  | 0, m, v, h => by cases h; simp
  | j + 1, m, v, h => by
    simp only [shiftP] at h
    split at h
    · rw [shiftP_val j _ _ h, Int.pow_succ, Int.mul_assoc, Int.mul_comm 10]
    · cases h
theorem shiftP_le : ∀ (j : Nat) (m v : Int), shiftP m j = some v → m.natAbs ≤ 1000000000000000000 → v.natAbs ≤ 1000000000000000000
  | 0, m, v, h, hm => by cases h; exact hm
  | j + 1, m, v, h, hm => by
    simp only [shiftP] at h
    split at h
    · exact shiftP_le j _ _ h (by omega)
    · cases h
theorem shiftP_neg : ∀ (j : Nat) (m v : Int), shiftP m j = some v → shiftP (-m) j = some (-v)
  | 0, m, v, h => by cases h; rfl
  | j + 1, m, v, h => by
    simp only [shiftP] at h ⊢
    split at h
    · rw [if_pos (by omega)]
      have := shiftP_neg j _ _ h
      rw [show -(m * 10) = -m * 10 by omega] at this
      exact this
    · cases h
theorem shiftP_fits : ∀ (j : Nat) (m : Int), (m * 10 ^ j).natAbs ≤ 1000000000000000000 → shiftP m j = some (m * 10 ^ j)
  | 0, m, _ => by simp [shiftP]
  | j + 1, m, h => by
    have e : m * 10 ^ (j + 1) = m * 10 * 10 ^ j := by rw [Int.pow_succ, Int.mul_assoc, Int.mul_comm 10]
    have h2 := abs_le_mul (m * 10) j
    rw [e] at h ⊢
    simp only [shiftP]
    rw [if_pos (by omega)]
    exact shiftP_fits j _ h

theorem shift_loop {R : Type} (J : Int) (hJ : J ≤ 1000) (e0 : Int → Option R) (e1 : Int → Bool → Int → Option R) : ∀ (j n i : Nat) (m : Int), j < n → (i : Int) + j = J → m.natAbs ≤ 1000000000000000000 →
    match shiftP m j with
    | some v => decimal_shifted_3_0_L n m J (i : Int) e0 e1 = e0 v
    | none => ∃ w, decimal_shifted_3_0_L n m J (i : Int) e0 e1 = e1 0 false w := by
  intro j
  induction j with
  | zero =>
    intro n i m hn hi hm
    obtain ⟨n, rfl⟩ : ∃ q, n = q + 1 := ⟨n - 1, by omega⟩
    have e : decimal_shifted_3_0_L (n + 1) m J (i : Int) e0 e1 = decimal_shifted_3_0_B decimal_within_int (fun x0' x1' x2' => decimal_shifted_3_0_L n x0' x1' x2' e0 e1) m J (i : Int) e0 e1 := rfl
    simp only [shiftP]
    rw [e]
    unfold decimal_shifted_3_0_B
    rw [dfalse (show ¬ (i : Int) < J by omega), cond_false]
  | succ j ih =>
    intro n i m hn hi hm
    obtain ⟨n, rfl⟩ : ∃ q, n = q + 1 := ⟨n - 1, by omega⟩
    have e : decimal_shifted_3_0_L (n + 1) m J (i : Int) e0 e1 = decimal_shifted_3_0_B decimal_within_int (fun x0' x1' x2' => decimal_shifted_3_0_L n x0' x1' x2' e0 e1) m J (i : Int) e0 e1 := rfl
    simp only [shiftP]
    rw [e]
    unfold decimal_shifted_3_0_B
    rw [dtrue (show (i : Int) < J by omega), cond_true, within_ok]
    by_cases h : -100000000000000000 ≤ m ∧ m ≤ 100000000000000000
    · rw [dtrue h.1, dtrue h.2, if_pos h, wrap_id (n := m * 10) (by omega) (by omega), wrap_id (n := (i : Int) + 1) (by omega) (by omega)]
      exact ih n (i + 1) (m * 10) (by omega) (by omega) (by omega)
    · rw [if_neg h]
      have : (decide (-100000000000000000 ≤ m) && decide (m ≤ 100000000000000000)) = false := by
        rw [Bool.and_eq_false_iff, decide_eq_false_iff_not, decide_eq_false_iff_not]; omega
      rw [this]
      exact ⟨m, rfl⟩

theorem shifted_ok {R : Type} {d : Dcm} (h : Fm d) {x : Int} (h1 : x ≤ d.exp) (h2 : -900 ≤ x) (k : Int → Bool → Option R) :
    decimal_shifted d x k = match shiftP d.mant (d.exp - x).toNat with | some v => k v true | none => k 0 false := by
  have hb := h.bounds
  have e : decimal_shifted d x k = decimal_shifted_X decimal_shifted_3_0_L d x k := rfl
  rw [e]
  unfold decimal_shifted_X
  rw [wrap_id (n := d.exp - x) (by omega) (by omega)]
  have key := shift_loop (R := R) (d.exp - x) (by omega) (fun y7 => k y7 true) (fun y8 y9 y10 => k y8 y9) (d.exp - x).toNat (Int.natAbs d.mant + Int.natAbs (d.exp - x) + Int.natAbs 0 + 64) 0 d.mant (by omega) (by omega) (by omega)
  cases hs : shiftP d.mant (d.exp - x).toNat with
  | some v => rw [hs] at key; exact key
  | none => rw [hs] at key; obtain ⟨w, key⟩ := key; exact key

end Go.Proofs.YtifgegmnngfckaaDoor

/-
  Decimals: Add, Compare; DecimalSums. Own work.
-/
set_option linter.unusedVariables false
set_option maxRecDepth 100000
namespace Go.Proofs.YtifgegmnngfckaaDoor
open Go Go.Yard Go.Lib

/-- What Make makes of a number and an exponent. -/
def Made (m x : Int) (r : Dcm × Bool) : Prop := (m = 0 ∧ r = (⟨0, 0⟩, true)) ∨ ∃ (u : Int) (j : Nat), m = u * 10 ^ j ∧ Int.tmod u 10 ≠ 0 ∧ r = mkD u (x + j)

theorem make_any {R : Type} (m x : Int) (hm : I64 m) (h1 : -4000000000000000000 ≤ x) (h2 : x ≤ 1000000) : ∃ r : Dcm × Bool, Made m x r ∧ ∀ k : Dcm → Bool → Option R, decimal_Make m x k = k r.1 r.2 := by
  by_cases h0 : m = 0
  · subst h0
    exact ⟨_, .inl ⟨rfl, rfl⟩, fun k => make_zero x k⟩
  · obtain ⟨j, u, hu, hd⟩ := strip_ex (m.natAbs + 1) m h0 (by omega)
    exact ⟨_, .inr ⟨u, j, hu, hd, rfl⟩, fun k => by subst hu; exact make_ok u j x hd hm h1 h2 k⟩

theorem add_nz {R : Type} {x y : Dcm} (hx : Fm x) (hy : Fm y) (x0 : x.mant ≠ 0) (y0 : y.mant ≠ 0) (k : Dcm → Bool → Option R) :
    decimal_Add x y k = match shiftP x.mant (x.exp - min x.exp y.exp).toNat, shiftP y.mant (y.exp - min x.exp y.exp).toNat with
      | some X, some Y => decimal_Make (IntKind.i64.wrap (X + Y)) (min x.exp y.exp) k
      | _, _ => k ⟨0, 0⟩ false := by
  have bx := hx.bounds
  have by' := hy.bounds
  have e : decimal_Add x y k = decimal_Add_X decimal_Right decimal_Make decimal_shifted x y k := rfl
  rw [e]
  unfold decimal_Add_X
  have e1 : (x.mant == 0) = false := by rw [beq_eq_false_iff_ne]; exact x0
  have e2 : (y.mant == 0) = false := by rw [beq_eq_false_iff_ne]; exact y0
  rw [right_ok hx, Bool.not_true, cond_false, right_ok hy, Bool.not_true, cond_false, e1, cond_false, e2, cond_false, shifted_ok hx (by omega) (by omega)]
  cases hX : shiftP x.mant (x.exp - min x.exp y.exp).toNat with
  | none =>
    simp only
    rw [shifted_ok hy (by omega) (by omega)]
    cases hY : shiftP y.mant (y.exp - min x.exp y.exp).toNat <;> rfl
  | some X =>
    simp only
    rw [shifted_ok hy (by omega) (by omega)]
    cases hY : shiftP y.mant (y.exp - min x.exp y.exp).toNat <;> rfl

theorem add_z {R : Type} {x y : Dcm} (hx : Fm x) (hy : Fm y) (h0 : x.mant = 0 ∨ y.mant = 0) (k : Dcm → Bool → Option R) :
    decimal_Add x y k = k ⟨x.mant + y.mant, x.exp + y.exp⟩ true := by
  have bx := hx.bounds
  have by' := hy.bounds
  have e : decimal_Add x y k = decimal_Add_X decimal_Right decimal_Make decimal_shifted x y k := rfl
  rw [e]
  unfold decimal_Add_X
  rw [right_ok hx, Bool.not_true, cond_false, right_ok hy, Bool.not_true, cond_false, wrap_id (n := x.mant + y.mant) (by omega) (by omega), wrap_id (n := x.exp + y.exp) (by omega) (by omega)]
  by_cases h : x.mant = 0
  · have e1 : (x.mant == 0) = true := by rw [h]; rfl
    rw [e1, cond_true]
  · have e1 : (x.mant == 0) = false := by rw [beq_eq_false_iff_ne]; exact h
    have e2 : (y.mant == 0) = true := by rcases h0 with h0 | h0; exact (h h0).elim; rw [h0]; rfl
    rw [e1, cond_false, e2, cond_true]

/-! ### Compare -/
def sgn (z : Int) : Int := if z < 0 then -1 else if z > 0 then 1 else 0
theorem cmp_ok {R : Type} (a b : Int) (k : Int → Option R) : cmp_Compare_int a b k = k (sgn (a - b)) := by
  have e : cmp_Compare_int a b k = cmp_Compare_int_X cmp_isNaN_int a b k := rfl
  have n : ∀ (x : Int) (f : Bool → Option R), cmp_isNaN_int x f = f (x != x) := fun _ _ => rfl
  rw [e]
  unfold cmp_Compare_int_X
  have ne : ∀ x : Int, (x != x) = false := fun x => by simp
  rw [n, n, ne, ne]
  simp only [cond_false]
  unfold sgn
  by_cases h1 : a < b
  · rw [dtrue h1, cond_true, if_pos (by omega)]
  · rw [dfalse h1, cond_false, if_neg (by omega)]
    by_cases h2 : a > b
    · rw [dtrue h2, cond_true, if_pos (by omega)]
    · rw [dfalse h2, cond_false, if_neg (by omega)]

/-- A decimal's value, in units of 10^-9. -/
def val (d : Dcm) : Int := d.mant * 10 ^ (d.exp + 9).toNat

theorem pow_split (a b : Int) (h1 : 0 ≤ a) (h2 : 0 ≤ b) : (10 : Int) ^ (a + b).toNat = 10 ^ a.toNat * 10 ^ b.toNat := by
  rw [← Int.pow_add]
  congr 1
  omega

theorem val_shift {d : Dcm} (h : Fm d) {x : Int} (h1 : x ≤ d.exp) (h2 : -9 ≤ x) : val d = d.mant * 10 ^ (d.exp - x).toNat * 10 ^ (x + 9).toNat := by
  unfold val
  rw [Int.mul_assoc, ← pow_split _ _ (by omega) (by omega)]
  congr 3
  omega

theorem sgn_mul (z p : Int) (hp : 1 ≤ p) : sgn (z * p) = sgn z := by
  unfold sgn
  by_cases h1 : z < 0
  · rw [if_pos h1, if_pos (Int.mul_neg_of_neg_of_pos h1 (by omega))]
  · rw [if_neg h1]
    by_cases h2 : z > 0
    · have := Int.mul_pos h2 (show 0 < p by omega)
      rw [if_pos h2, if_neg (by omega), if_pos this]
    · have : z = 0 := by omega
      subst this
      simp

theorem pow_mono {a b : Nat} (h : a ≤ b) : (10 : Int) ^ a ≤ 10 ^ b := by
  have : (10 : Int) ^ b = 10 ^ a * 10 ^ (b - a) := by rw [← Int.pow_add]; congr 1; omega
  rw [this]
  have h1 := pow_pos10 a
  have h2 := pow_pos10 (b - a)
  calc (10 : Int) ^ a = 10 ^ a * 1 := by simp
    _ ≤ 10 ^ a * 10 ^ (b - a) := Int.mul_le_mul_of_nonneg_left h2 (by omega)

theorem nDigits_low (u : Nat) (h : 0 < u) : 10 ^ (nDigits u - 1) ≤ u := by
  induction u using Nat.strongRecOn with
  | _ u ih =>
    by_cases h1 : u < 10
    · rw [nDigits_small h1]; exact h
    · rw [nDigits_big h1, Nat.add_sub_cancel]
      have h2 := ih (u / 10) (by omega) (by omega)
      have h3 := nDigits_pos (u / 10)
      have e : nDigits (u / 10) = (nDigits (u / 10) - 1) + 1 := by omega
      rw [e, Nat.pow_succ]
      omega

theorem size_ok {R : Type} {d : Dcm} (h : Fm d) (k : Int → Option R) : decimal_size d k = k ((nDigits d.mant.natAbs : Int) + d.exp) := by
  have b := h.bounds
  have e : decimal_size d k = k (IntKind.i64.wrap (((itoaS (max d.mant (IntKind.i64.wrap (0 - d.mant)))).length : Int) + d.exp)) := rfl
  rw [e, wrap_id (n := 0 - d.mant) (by omega) (by omega)]
  have hm : max d.mant (0 - d.mant) = (d.mant.natAbs : Int) := by omega
  have hl := nDigits_le20 d.mant.natAbs (by omega)
  rw [hm]
  have : itoaS (d.mant.natAbs : Int) = decDigits d.mant.natAbs := itoa_nonneg _
  rw [this, decDigits_length, wrap_id (by omega) (by omega)]

theorem digits16 {u : Nat} (h : u ≤ 1000000000000000) : nDigits u ≤ 16 := by
  rcases Nat.eq_zero_or_pos u with rfl | h0
  · rw [nDigits_small (by omega)]; omega
  · have h1 := nDigits_low u h0
    rcases Nat.lt_or_ge (nDigits u) 17 with h2 | h2
    · omega
    · have h3 : (10 : Nat) ^ 16 ≤ 10 ^ (nDigits u - 1) := Nat.pow_le_pow_right (by omega) (by omega)
      have e : (10 : Nat) ^ 16 = 10000000000000000 := rfl
      omega

/-- Between its powers of ten. -/
theorem val_range {d : Dcm} (h : Fm d) (h0 : d.mant ≠ 0) :
    (10 : Int) ^ (nDigits d.mant.natAbs + d.exp + 8).toNat ≤ (val d).natAbs ∧ ((val d).natAbs : Int) < 10 ^ (nDigits d.mant.natAbs + d.exp + 9).toNat := by
  have b := h.bounds
  have hp := nDigits_pos d.mant.natAbs
  have hv : ((val d).natAbs : Int) = (d.mant.natAbs : Int) * 10 ^ (d.exp + 9).toNat := by
    unfold val
    rw [Int.natAbs_mul]
    have := pow_pos10 (d.exp + 9).toNat
    push_cast
    congr 1 <;> omega
  have hq := pow_pos10 (d.exp + 9).toNat
  have l := nDigits_low d.mant.natAbs (by omega)
  have u := lt_pow_nDigits d.mant.natAbs
  have l' : (10 : Int) ^ (nDigits d.mant.natAbs - 1) ≤ (d.mant.natAbs : Int) := by exact_mod_cast l
  have u' : (d.mant.natAbs : Int) + 1 ≤ (10 : Int) ^ nDigits d.mant.natAbs := by exact_mod_cast u
  constructor
  · have e : (10 : Int) ^ (nDigits d.mant.natAbs + d.exp + 8).toNat = 10 ^ (nDigits d.mant.natAbs - 1) * 10 ^ (d.exp + 9).toNat := by
      rw [← Int.pow_add]; congr 1 <;> omega
    rw [e, hv]
    exact Int.mul_le_mul_of_nonneg_right l' (by omega)
  · have e : (10 : Int) ^ (nDigits d.mant.natAbs + d.exp + 9).toNat = 10 ^ nDigits d.mant.natAbs * 10 ^ (d.exp + 9).toNat := by
      rw [← Int.pow_add]; congr 1 <;> omega
    rw [e, hv]
    have := Int.mul_le_mul_of_nonneg_right u' (show 0 ≤ (10 : Int) ^ (d.exp + 9).toNat by omega)
    rw [Int.add_mul, Int.one_mul] at this
    omega

theorem val_sgn {d : Dcm} : sgn (val d) = sgn d.mant := sgn_mul _ _ (pow_pos10 _)

theorem shift_small {d : Dcm} (h : Fm d) {x : Int} (h1 : x ≤ d.exp) (hs : (nDigits d.mant.natAbs : Int) + (d.exp - x) ≤ 16) : shiftP d.mant (d.exp - x).toNat = some (d.mant * 10 ^ (d.exp - x).toNat) := by
  apply shiftP_fits
  rw [Int.natAbs_mul]
  have u := lt_pow_nDigits d.mant.natAbs
  have hq := pow_pos10 (d.exp - x).toNat
  have e : ((10 : Int) ^ (d.exp - x).toNat).natAbs = 10 ^ (d.exp - x).toNat := by rw [Int.natAbs_pow]; rfl
  rw [e]
  have h3 : d.mant.natAbs * 10 ^ (d.exp - x).toNat ≤ 10 ^ nDigits d.mant.natAbs * 10 ^ (d.exp - x).toNat := Nat.mul_le_mul_right _ (by omega)
  rw [← Nat.pow_add] at h3
  have h4 : (10 : Nat) ^ (nDigits d.mant.natAbs + (d.exp - x).toNat) ≤ 10 ^ 16 := Nat.pow_le_pow_right (by omega) (by omega)
  have e16 : (10 : Nat) ^ 16 = 10000000000000000 := rfl
  omega

theorem compare_ok {R : Type} {a b : Dcm} (ha : Fm a) (hb : Fm b) (k : Int → Option R) : decimal_Compare a b k = k (sgn (val a - val b)) := by
  have ba := ha.bounds
  have bb := hb.bounds
  have e : decimal_Compare a b k = decimal_Compare_X decimal_Right decimal_sign cmp_Compare_int decimal_size decimal_shifted a b k := rfl
  rw [e]
  unfold decimal_Compare_X
  have sg : ∀ (m : Int) (f : Int → Option R), decimal_sign m f = f (sgn m) := fun m f => by
    have e : decimal_sign m f = cmp_Compare_int m 0 (fun y2 => f y2) := rfl
    rw [e, cmp_ok, Int.sub_zero]
  have va := val_sgn (d := a)
  have vb := val_sgn (d := b)
  have s3 : ∀ z : Int, (z < 0 ∧ sgn z = -1) ∨ (z = 0 ∧ sgn z = 0) ∨ (0 < z ∧ sgn z = 1) := fun z => by
    unfold sgn
    by_cases h1 : z < 0
    · exact .inl ⟨h1, by rw [if_pos h1]⟩
    · by_cases h2 : z > 0
      · exact .inr (.inr ⟨h2, by rw [if_neg h1, if_pos h2]⟩)
      · exact .inr (.inl ⟨by omega, by rw [if_neg h1, if_neg h2]⟩)
  have sneg : ∀ z : Int, z < 0 → sgn z = -1 := fun z h => by unfold sgn; rw [if_pos h]
  have spos : ∀ z : Int, 0 < z → sgn z = 1 := fun z h => by unfold sgn; rw [if_neg (by omega), if_pos h]
  simp only [sg, right_ok ha, right_ok hb, Bool.not_true, cond_false, size_ok ha, size_ok hb, cmp_ok]
  by_cases hs : sgn a.mant = sgn b.mant
  · have hs' : (sgn a.mant != sgn b.mant) = false := by rw [hs]; simp
    rw [hs', cond_false]
    by_cases hz : (nDigits a.mant.natAbs : Int) + a.exp = (nDigits b.mant.natAbs : Int) + b.exp
    · have hz' : (((nDigits a.mant.natAbs : Int) + a.exp) != ((nDigits b.mant.natAbs : Int) + b.exp)) = false := by rw [hz]; simp
      rw [hz', cond_false, shifted_ok ha (by omega) (by omega)]
      have pa := nDigits_pos a.mant.natAbs
      have pb := nDigits_pos b.mant.natAbs
      have da := digits16 (u := a.mant.natAbs) (by omega)
      have db := digits16 (u := b.mant.natAbs) (by omega)
      rw [shift_small ha (by omega) (by omega)]
      simp only
      rw [shifted_ok hb (by omega) (by omega), shift_small hb (by omega) (by omega)]
      simp only
      rw [val_shift ha (x := min a.exp b.exp) (by omega) (by omega), val_shift hb (x := min a.exp b.exp) (by omega) (by omega), ← Int.sub_mul, sgn_mul _ _ (pow_pos10 _)]
    · have hz' : (((nDigits a.mant.natAbs : Int) + a.exp) != ((nDigits b.mant.natAbs : Int) + b.exp)) = true := bne_iff_ne.2 hz
      rw [hz', cond_true]
      have a0 : a.mant ≠ 0 := by
        intro h
        have h2 : b.mant = 0 := by
          rw [h] at hs
          rcases s3 b.mant with ⟨g1, g2⟩ | ⟨g1, g2⟩ | ⟨g1, g2⟩
          · rw [g2] at hs; exact absurd hs (by decide)
          · exact g1
          · rw [g2] at hs; exact absurd hs (by decide)
        rw [ha.zero h, hb.zero h2] at hz
        exact hz rfl
      have b0 : b.mant ≠ 0 := by
        intro h
        rw [h] at hs
        rcases s3 a.mant with ⟨g1, g2⟩ | ⟨g1, g2⟩ | ⟨g1, g2⟩
        · rw [g2] at hs; exact absurd hs (by decide)
        · exact a0 g1
        · rw [g2] at hs; exact absurd hs (by decide)
      obtain ⟨la, ua⟩ := val_range ha a0
      obtain ⟨lb, ub⟩ := val_range hb b0
      have pa := nDigits_pos a.mant.natAbs
      have pb := nDigits_pos b.mant.natAbs
      congr 1
      rcases s3 a.mant with ⟨g1, g2⟩ | ⟨g1, g2⟩ | ⟨g1, g2⟩
      · -- both below
        have vna : sgn (val a) = -1 := by rw [va, g2]
        have vnb : sgn (val b) = -1 := by rw [vb, ← hs, g2]
        have na : val a < 0 := by rcases s3 (val a) with h | h | h <;> first | exact h.1 | (rw [h.2] at vna; exact absurd vna (by decide))
        have nb : val b < 0 := by rcases s3 (val b) with h | h | h <;> first | exact h.1 | (rw [h.2] at vnb; exact absurd vnb (by decide))
        rw [g2]
        rcases Int.lt_or_gt_of_ne hz with h | h
        · have hp := pow_mono (show ((nDigits a.mant.natAbs : Int) + a.exp + 9).toNat ≤ ((nDigits b.mant.natAbs : Int) + b.exp + 8).toNat by omega)
          rw [sneg _ (show (nDigits a.mant.natAbs : Int) + a.exp - ((nDigits b.mant.natAbs : Int) + b.exp) < 0 by omega), spos _ (show 0 < val a - val b by omega)]
          decide
        · have hp := pow_mono (show ((nDigits b.mant.natAbs : Int) + b.exp + 9).toNat ≤ ((nDigits a.mant.natAbs : Int) + a.exp + 8).toNat by omega)
          rw [spos _ (show 0 < (nDigits a.mant.natAbs : Int) + a.exp - ((nDigits b.mant.natAbs : Int) + b.exp) by omega), sneg _ (show val a - val b < 0 by omega)]
          decide
      · exact (a0 g1).elim
      · have vna : sgn (val a) = 1 := by rw [va, g2]
        have vnb : sgn (val b) = 1 := by rw [vb, ← hs, g2]
        have na : 0 < val a := by rcases s3 (val a) with h | h | h <;> first | exact h.1 | (rw [h.2] at vna; exact absurd vna (by decide))
        have nb : 0 < val b := by rcases s3 (val b) with h | h | h <;> first | exact h.1 | (rw [h.2] at vnb; exact absurd vnb (by decide))
        rw [g2]
        rcases Int.lt_or_gt_of_ne hz with h | h
        · have hp := pow_mono (show ((nDigits a.mant.natAbs : Int) + a.exp + 9).toNat ≤ ((nDigits b.mant.natAbs : Int) + b.exp + 8).toNat by omega)
          rw [sneg _ (show (nDigits a.mant.natAbs : Int) + a.exp - ((nDigits b.mant.natAbs : Int) + b.exp) < 0 by omega), sneg _ (show val a - val b < 0 by omega)]
          decide
        · have hp := pow_mono (show ((nDigits b.mant.natAbs : Int) + b.exp + 9).toNat ≤ ((nDigits a.mant.natAbs : Int) + a.exp + 8).toNat by omega)
          rw [spos _ (show 0 < (nDigits a.mant.natAbs : Int) + a.exp - ((nDigits b.mant.natAbs : Int) + b.exp) by omega), spos _ (show 0 < val a - val b by omega)]
          decide
  · have hs' : (sgn a.mant != sgn b.mant) = true := bne_iff_ne.2 hs
    rw [hs', cond_true]
    congr 1
    rw [← va, ← vb] at hs ⊢
    rcases s3 (val a) with ⟨g1, g2⟩ | ⟨g1, g2⟩ | ⟨g1, g2⟩ <;> rcases s3 (val b) with ⟨k1, k2⟩ | ⟨k1, k2⟩ | ⟨k1, k2⟩ <;> rw [g2, k2] at hs ⊢ <;>
      first
        | exact (hs rfl).elim
        | (rw [sneg (val a - val b) (by omega)]; decide)
        | (rw [spos (val a - val b) (by omega)]; decide)

/-! ### DecimalSums -/
theorem mkD_fm {u x : Int} (hu : Int.tmod u 10 ≠ 0) (h : (mkD u x).2 = true) : mkD u x = (⟨u, x⟩, true) ∧ Fm ⟨u, x⟩ := by
  unfold mkD at h ⊢
  split at h
  · rename_i hc
    rw [if_pos hc]
    exact ⟨rfl, .inr ⟨hu, hc⟩⟩
  · cases h
theorem mkD_false {u x : Int} (h : (mkD u x).2 = false) : mkD u x = (⟨0, 0⟩, false) := by
  unfold mkD at h ⊢
  split at h
  · cases h
  · rename_i hc
    rw [if_neg hc]

/-- What Make makes out of a decimal's own number by a lower exponent: the decimal. -/
theorem made_same {d : Dcm} (h : Fm d) (h0 : d.mant ≠ 0) {j : Nat} {x : Int} (hx : x + j = d.exp) {r : Dcm × Bool} (hr : Made (d.mant * 10 ^ j) x r) : r = (d, true) := by
  have hz := h.nz h0
  have hab := abs_le_mul d.mant j
  rcases hr with ⟨h1, _⟩ | ⟨u, i, e, hu, rfl⟩
  · omega
  · obtain ⟨rfl, rfl⟩ := strip_one i j u d.mant hu hz e.symm
    have b := h.bounds
    unfold mkD
    rw [if_pos (by omega), hx]

theorem mod10 {m X : Int} (h : Int.tmod (m + X * 10) 10 = 0) : Int.tmod m 10 = 0 := by
  have h1 := Int.dvd_of_tmod_eq_zero h
  obtain ⟨q, hq⟩ := h1
  have : m = (q - X) * 10 := by omega
  rw [this]
  exact Int.mul_tmod_left _ _

theorem add_comm_ok {R : Type} {x y : Dcm} (hx : Fm x) (hy : Fm y) : ∃ (s : Dcm) (p : Bool), (∀ k : Dcm → Bool → Option R, decimal_Add x y k = k s p) ∧ (∀ k : Dcm → Bool → Option R, decimal_Add y x k = k s p) ∧
    (p = false → s = ⟨0, 0⟩) ∧ (p = true → Fm s ∧ val s = val x + val y ∧ ∀ k : Dcm → Bool → Option R, decimal_Add s ⟨-y.mant, y.exp⟩ k = k x true) := by
  have bx := hx.bounds
  have by' := hy.bounds
  have hyn := hy.neg
  by_cases x0 : x.mant = 0
  · have ex := hx.zero x0
    refine ⟨⟨x.mant + y.mant, x.exp + y.exp⟩, true, fun k => add_z hx hy (.inl x0) k, fun k => ?_, (fun h => by cases h), fun _ => ?_⟩
    · rw [add_z hy hx (.inr x0), Int.add_comm y.mant, Int.add_comm y.exp]
    · rw [ex]
      have ey : (⟨0 + y.mant, 0 + y.exp⟩ : Dcm) = y := by rw [Int.zero_add, Int.zero_add]
      rw [ey]
      refine ⟨hy, by simp [val], fun k => ?_⟩
      by_cases y0 : y.mant = 0
      · rw [add_z hy hyn (.inl y0)]
        have e2 := hy.zero y0
        rw [e2]
        rfl
      · rw [add_nz hy hyn y0 (by simp only; omega)]
        simp only [Int.min_self, Int.sub_self]
        show decimal_Make (IntKind.i64.wrap (y.mant + -y.mant)) y.exp k = _
        rw [Int.add_right_neg, wrap_id (n := 0) (by omega) (by omega), make_zero]
  by_cases y0 : y.mant = 0
  · have ey := hy.zero y0
    refine ⟨⟨x.mant + y.mant, x.exp + y.exp⟩, true, fun k => add_z hx hy (.inr y0) k, fun k => ?_, (fun h => by cases h), fun _ => ?_⟩
    · rw [add_z hy hx (.inl y0), Int.add_comm y.mant, Int.add_comm y.exp]
    · rw [ey]
      have ex : (⟨x.mant + 0, x.exp + 0⟩ : Dcm) = x := by rw [Int.add_zero, Int.add_zero]
      rw [ex]
      refine ⟨hx, by simp [val], fun k => ?_⟩
      exact (add_z hx (y := ⟨0, 0⟩) .mk0 (.inr rfl) k).trans (congrArg (fun d => k d true) ex)
  -- neither is nothing
  have hc : ∀ k : Dcm → Bool → Option R, decimal_Add y x k = match shiftP y.mant (y.exp - min x.exp y.exp).toNat, shiftP x.mant (x.exp - min x.exp y.exp).toNat with
      | some Y, some X => decimal_Make (IntKind.i64.wrap (Y + X)) (min x.exp y.exp) k
      | _, _ => k ⟨0, 0⟩ false := fun k => by rw [add_nz hy hx y0 x0, Int.min_comm]
  cases hX : shiftP x.mant (x.exp - min x.exp y.exp).toNat with
  | none =>
    refine ⟨⟨0, 0⟩, false, fun k => by rw [add_nz hx hy x0 y0, hX], fun k => ?_, fun _ => rfl, fun h => by cases h⟩
    rw [hc, hX]
    cases shiftP y.mant (y.exp - min x.exp y.exp).toNat <;> rfl
  | some X =>
  cases hY : shiftP y.mant (y.exp - min x.exp y.exp).toNat with
  | none =>
    refine ⟨⟨0, 0⟩, false, fun k => by rw [add_nz hx hy x0 y0, hX, hY], fun k => by rw [hc, hX, hY], fun _ => rfl, fun h => by cases h⟩
  | some Y =>
  have vX := shiftP_val _ _ _ hX
  have vY := shiftP_val _ _ _ hY
  have lX := shiftP_le _ _ _ hX (by omega)
  have lY := shiftP_le _ _ _ hY (by omega)
  have hw : IntKind.i64.wrap (X + Y) = X + Y := wrap_id (by omega) (by omega)
  obtain ⟨r, hr, hm⟩ := make_any (R := R) (X + Y) (min x.exp y.exp) (by unfold I64; omega) (by omega) (by omega)
  have valx := val_shift hx (x := min x.exp y.exp) (by omega) (by omega)
  have valy := val_shift hy (x := min x.exp y.exp) (by omega) (by omega)
  rw [← vX] at valx
  rw [← vY] at valy
  refine ⟨r.1, r.2, fun k => by rw [add_nz hx hy x0 y0, hX, hY]; simp only; rw [hw, hm], fun k => by rw [hc, hX, hY]; simp only; rw [Int.add_comm Y X, hw, hm], fun h => ?_, fun h => ?_⟩
  · rcases hr with ⟨_, rfl⟩ | ⟨u, j, _, _, rfl⟩
    · cases h
    · rw [mkD_false h]
  · have yn0 : (⟨-y.mant, y.exp⟩ : Dcm).mant ≠ 0 := by simp only; omega
    rcases hr with ⟨hz, rfl⟩ | ⟨u, j, hu, hd, rfl⟩
    · -- the sum is nothing
      have e1 : x.mant * 10 ^ (x.exp - min x.exp y.exp).toNat = (-y.mant) * 10 ^ (y.exp - min x.exp y.exp).toNat := by rw [← vX, Int.neg_mul, ← vY]; omega
      obtain ⟨g1, g2⟩ := strip_one _ _ _ _ (hx.nz x0) (tmod_neg (hy.nz y0)) e1
      refine ⟨.mk0, ?_, fun k => ?_⟩
      · rw [valx, valy, ← Int.add_mul, hz]; simp [val]
      · rw [add_z .mk0 hyn (.inl rfl)]
        have : (⟨0 + -y.mant, 0 + y.exp⟩ : Dcm) = x := by
          cases x
          simp only at g1 g2 ⊢
          rw [Int.zero_add, Int.zero_add, ← g2]
          congr 1
          omega
        exact congrArg (fun d => k d true) this
    · obtain ⟨e1, hf⟩ := mkD_fm hd h
      rw [e1]
      simp only
      have hu0 : u ≠ 0 := by rintro rfl; exact hd rfl
      have bs := hf.bounds
      simp only at bs
      refine ⟨hf, ?_, fun k => ?_⟩
      · have vs := val_shift hf (x := min x.exp y.exp) (by simp only; omega) (by omega)
        rw [vs, valx, valy, ← Int.add_mul, hu]
        simp only
        congr 2
        congr 1
        omega
      · rw [add_nz hf hyn hu0 yn0]
        simp only
        -- where the exponents stand
        by_cases hcase : y.exp ≤ x.exp
        · have hmin : min x.exp y.exp = y.exp := by omega
          simp only [hmin] at hX hY bs vX vY valx valy ⊢
          have hj0 : (y.exp - y.exp).toNat = 0 := by omega
          have hmin2 : min (y.exp + (j : Int)) y.exp = y.exp := by omega
          rw [hj0] at vY
          have vY' : Y = y.mant := by rw [vY]; simp
          rw [hmin2, hj0]
          have hsj : (y.exp + (j : Int) - y.exp).toNat = j := by omega
          rw [hsj]
          have hfit : shiftP u j = some (u * 10 ^ j) := by
            apply shiftP_fits
            rw [← hu]
            by_cases hj : j = 0
            · subst hj
              have : X + Y = u := by rw [hu]; simp
              omega
            · have hk : (x.exp - y.exp).toNat = 0 := by
                rcases Nat.eq_zero_or_pos (x.exp - y.exp).toNat with h0 | h0
                · exact h0
                · exfalso
                  obtain ⟨q, hq⟩ : ∃ q, (x.exp - y.exp).toNat = q + 1 := ⟨(x.exp - y.exp).toNat - 1, by omega⟩
                  obtain ⟨i, hi⟩ : ∃ i, j = i + 1 := ⟨j - 1, by omega⟩
                  apply hy.nz y0
                  apply mod10 (X := x.mant * 10 ^ q)
                  have e3 : y.mant + x.mant * 10 ^ q * 10 = u * 10 ^ i * 10 := by
                    rw [vX, vY', hq, hi, Int.pow_succ, Int.pow_succ, ← Int.mul_assoc, ← Int.mul_assoc] at hu
                    omega
                  rw [e3]
                  exact Int.mul_tmod_left _ _
              rw [hk] at vX
              have : X = x.mant := by rw [vX]; simp
              omega
          rw [hfit, ← hu]
          show decimal_Make (IntKind.i64.wrap (X + Y + -y.mant)) y.exp k = _
          have e4 : X + Y + -y.mant = X := by omega
          rw [e4, wrap_id (n := X) (by omega) (by omega)]
          obtain ⟨r2, hr2, hm2⟩ := make_any (R := R) X y.exp (by unfold I64; omega) (by omega) (by omega)
          rw [hm2]
          rw [vX] at hr2
          rw [made_same hx x0 (j := (x.exp - y.exp).toNat) (x := y.exp) (by omega) hr2]
        · have hmin : min x.exp y.exp = x.exp := by omega
          simp only [hmin] at hX hY bs vX vY valx valy ⊢
          have hj0 : (x.exp - x.exp).toNat = 0 := by omega
          rw [hj0] at vX
          have vX' : X = x.mant := by rw [vX]; simp
          obtain ⟨q, hq⟩ : ∃ q, (y.exp - x.exp).toNat = q + 1 := ⟨(y.exp - x.exp).toNat - 1, by omega⟩
          have hj : j = 0 := by
            rcases Nat.eq_zero_or_pos j with h0 | h0
            · exact h0
            · exfalso
              obtain ⟨i, hi⟩ : ∃ i, j = i + 1 := ⟨j - 1, by omega⟩
              apply hx.nz x0
              apply mod10 (X := y.mant * 10 ^ q)
              have e3 : x.mant + y.mant * 10 ^ q * 10 = u * 10 ^ i * 10 := by
                rw [vX', vY, hq, hi, Int.pow_succ, Int.pow_succ, ← Int.mul_assoc, ← Int.mul_assoc] at hu
                omega
              rw [e3]
              exact Int.mul_tmod_left _ _
          subst hj
          have hu' : X + Y = u := by rw [hu]; simp
          have hmin2 : min (x.exp + ((0 : Nat) : Int)) y.exp = x.exp := by omega
          have hs0 : (x.exp + ((0 : Nat) : Int) - x.exp).toNat = 0 := by omega
          rw [hmin2, hs0, shiftP_neg _ _ _ hY]
          show decimal_Make (IntKind.i64.wrap (u + -Y)) x.exp k = _
          have e4 : u + -Y = x.mant := by omega
          rw [e4, wrap_id (n := x.mant) (by omega) (by omega)]
          obtain ⟨r2, hr2, hm2⟩ := make_any (R := R) x.mant x.exp (by unfold I64; omega) (by omega) (by omega)
          rw [hm2]
          have e5 : x.mant = x.mant * 10 ^ 0 := by simp
          rw [e5] at hr2
          rw [made_same hx x0 (j := 0) (x := x.exp) (by omega) hr2]

theorem small_arr2 {N : Nat} {a : Arr2} (h : Small N (.int .i64 a.a) ∧ Small N (.int .i64 a.b)) : I64 a.a ∧ I64 a.b := ⟨i64_has.1 h.1.int_inv, i64_has.1 h.2.int_inv⟩

theorem sums_core {R : Type} (a b : Arr2) (ha : I64 a.a ∧ I64 a.b) (hb : I64 b.a ∧ I64 b.b) (k : Bool → Option R) : law01_DecimalSums a b k = k true := by
  have e : law01_DecimalSums a b k = law01_DecimalSums_X law01_awake law01_Fit decimal_Compare decimal_Add a b k := rfl
  rw [e]
  unfold law01_DecimalSums_X
  rw [awake01]
  obtain ⟨x, hx, fx⟩ := fit_ok (R := R) a.a a.b ha.1 ha.2
  obtain ⟨y, hy, fy⟩ := fit_ok (R := R) b.a b.b hb.1 hb.2
  have bx := hx.bounds
  have by' := hy.bounds
  obtain ⟨s, p, h1, h2, h3, h4⟩ := add_comm_ok (R := R) hx hy
  rw [fx, fy, h1, h2, wrap_id (n := 0 - x.mant) (by omega) (by omega), wrap_id (n := 0 - y.mant) (by omega) (by omega)]
  have exn : 0 - x.mant = -x.mant := by omega
  have eyn : 0 - y.mant = -y.mant := by omega
  rw [exn, eyn]
  -- with the opposite
  have h5 : ∀ f : Dcm → Bool → Option R, decimal_Add x ⟨-x.mant, x.exp⟩ f = f ⟨0, 0⟩ true := fun f => by
    by_cases x0 : x.mant = 0
    · rw [add_z hx hx.neg (.inl x0), hx.zero x0]
      rfl
    · rw [add_nz hx hx.neg x0 (by simp only; omega)]
      simp only [Int.min_self, Int.sub_self]
      show decimal_Make (IntKind.i64.wrap (x.mant + -x.mant)) x.exp f = _
      rw [Int.add_right_neg, wrap_id (n := 0) (by omega) (by omega), make_zero]
  rw [h5]
  have beq0 : ((0 : Int) == 0 && ((0 : Int) == 0 && true)) = true := rfl
  simp only [BEq.rfl, Bool.and_self, Bool.not_true, cond_false, Bool.and_true]
  cases p with
  | false =>
    rw [h3 rfl]
    rfl
  | true =>
    obtain ⟨g1, g2, g3⟩ := h4 rfl
    rw [Bool.not_true, cond_false, g3]
    simp only [BEq.rfl, Bool.and_self, cond_true]
    rw [compare_ok g1 hx, compare_ok hy .mk0]
    have v0 : val ⟨0, 0⟩ = 0 := by simp [val]
    have ev : val s - val x = val y - val ⟨0, 0⟩ := by rw [g2, v0]; omega
    rw [ev]
    simp

theorem arr2_i64 {N : Nat} {a : Arr2} (h : ∀ c ∈ Ty.cells .arr2 a, Small N c) : I64 a.a ∧ I64 a.b :=
  ⟨i64_has.1 (h (.int .i64 a.a) (by simp [Ty.cells])).int_inv, i64_has.1 (h (.int .i64 a.b) (by simp [Ty.cells])).int_inv⟩

theorem decimalSums_true {R : Type} (a b : Arr2) (ha : ∀ c ∈ Ty.cells .arr2 a, Small 1048576 c) (hb : ∀ c ∈ Ty.cells .arr2 b, Small 1048576 c) (k : Bool → Option R) : law01_DecimalSums a b k = k true :=
  sums_core a b (arr2_i64 ha) (arr2_i64 hb) k
end Go.Proofs.YtifgegmnngfckaaDoor

/-
  DecimalOrder. Own work.
-/
set_option linter.unusedVariables false
set_option maxRecDepth 100000
namespace Go.Proofs.YtifgegmnngfckaaDoor
open Go Go.Yard Go.Lib

theorem val_neg (d : Dcm) : val ⟨-d.mant, d.exp⟩ = -val d := by unfold val; simp only; rw [Int.neg_mul]
theorem val_inj {x y : Dcm} (hx : Fm x) (hy : Fm y) (h : val x = val y) : x = y := by
  have zero : ∀ {d : Dcm}, Fm d → val d = 0 → d = ⟨0, 0⟩ := fun {d} hd h => by
    unfold val at h
    have hp := pow_pos10 (d.exp + 9).toNat
    rcases Int.mul_eq_zero.1 h with h | h
    · exact hd.zero h
    · omega
  by_cases x0 : x.mant = 0
  · have hx' := hx.zero x0
    have v0 : val x = 0 := by rw [hx']; rfl
    rw [hx', zero hy (by rw [← h, v0])]
  · by_cases y0 : y.mant = 0
    · have hy' := hy.zero y0
      have v0 : val y = 0 := by rw [hy']; rfl
      rw [hy', zero hx (by rw [h, v0])]
    · have bx := hx.bounds
      have by' := hy.bounds
      unfold val at h
      obtain ⟨h1, h2⟩ := strip_one _ _ _ _ (hx.nz x0) (hy.nz y0) h
      obtain ⟨xm, xe⟩ := x
      obtain ⟨ym, ye⟩ := y
      simp only at h1 h2 bx by'
      subst h2
      have : xe = ye := by omega
      rw [this]

theorem sgn_neg (z : Int) : sgn (-z) = -sgn z := by
  unfold sgn
  by_cases h1 : z < 0
  · rw [if_pos h1, if_neg (by omega), if_pos (by omega)]; rfl
  · rw [if_neg h1]
    by_cases h2 : z > 0
    · rw [if_pos h2, if_pos (by omega)]
    · rw [if_neg h2, if_neg (by omega), if_neg (by omega)]; rfl
theorem sgn3 (z : Int) : (z < 0 ∧ sgn z = -1) ∨ (z = 0 ∧ sgn z = 0) ∨ (0 < z ∧ sgn z = 1) := by
  unfold sgn
  by_cases h1 : z < 0
  · exact .inl ⟨h1, by rw [if_pos h1]⟩
  · by_cases h2 : z > 0
    · exact .inr (.inr ⟨h2, by rw [if_neg h1, if_pos h2]⟩)
    · exact .inr (.inl ⟨by omega, by rw [if_neg h1, if_neg h2]⟩)

theorem order_core {R : Type} (a b c : Arr2) (ha : I64 a.a ∧ I64 a.b) (hb : I64 b.a ∧ I64 b.b) (hc : I64 c.a ∧ I64 c.b) (k : Bool → Option R) : law01_DecimalOrder a b c k = k true := by
  have e : law01_DecimalOrder a b c k = law01_DecimalOrder_X law01_awake law01_Fit decimal_Compare law01_DecimalOrder_1 a b c k := rfl
  rw [e]
  unfold law01_DecimalOrder_X
  rw [awake01]
  obtain ⟨x, hx, fx⟩ := fit_ok (R := R) a.a a.b ha.1 ha.2
  obtain ⟨y, hy, fy⟩ := fit_ok (R := R) b.a b.b hb.1 hb.2
  obtain ⟨z, hz, fz⟩ := fit_ok (R := R) c.a c.b hc.1 hc.2
  have neg : ∀ {d : Dcm} (hd : Fm d) (f : Dcm → Option R), law01_DecimalOrder_1 d f = f ⟨-d.mant, d.exp⟩ := fun {d} hd f => by
    have bd := hd.bounds
    have e : law01_DecimalOrder_1 d f = f ⟨IntKind.i64.wrap (0 - d.mant), d.exp⟩ := rfl
    rw [e, wrap_id (by omega) (by omega)]
    have : 0 - d.mant = -d.mant := by omega
    rw [this]
  rw [fx, fy, fz]
  simp only [compare_ok hx hy, compare_ok hy hz, compare_ok hx hz, compare_ok hy hx, neg hx, neg hy, compare_ok hx.neg hy.neg]
  have hxy : (x.mant == y.mant && (x.exp == y.exp && true)) = decide (val x - val y = 0) := by
    by_cases h : x = y
    · subst h; simp
    · have h2 : val x - val y ≠ 0 := fun hv => h (val_inj hx hy (by omega))
      rw [dfalse h2]
      cases h3 : (x.mant == y.mant && (x.exp == y.exp && true)) with
      | false => rfl
      | true =>
        exfalso
        apply h
        simp only [Bool.and_true, Bool.and_eq_true, beq_iff_eq] at h3
        cases x; cases y
        simp only at h3
        rw [h3.1, h3.2]
  have e1 : val y - val x = -(val x - val y) := by omega
  have e2 : val ⟨-x.mant, x.exp⟩ - val ⟨-y.mant, y.exp⟩ = -(val x - val y) := by rw [val_neg, val_neg]; omega
  rw [hxy, e1, e2, sgn_neg]
  have hxz : val x - val z = (val x - val y) + (val y - val z) := by omega
  rw [hxz]
  generalize val x - val y = p
  generalize val y - val z = q
  have t1 : (!true) = false := rfl
  rw [t1, cond_false]
  rcases sgn3 p with ⟨h1, h2⟩ | ⟨h1, h2⟩ | ⟨h1, h2⟩ <;> rcases sgn3 q with ⟨g1, g2⟩ | ⟨g1, g2⟩ | ⟨g1, g2⟩ <;> rcases sgn3 (p + q) with ⟨f1, f2⟩ | ⟨f1, f2⟩ | ⟨f1, f2⟩ <;>
    first
      | (exfalso; omega)
      | (rw [h2, g2, f2]; first | (rw [dtrue h1]; rfl) | (rw [dfalse (show ¬ p = 0 by omega)]; rfl))

theorem decimalOrder_true {R : Type} (a b c : Arr2) (ha : ∀ v ∈ Ty.cells .arr2 a, Small 1048576 v) (hb : ∀ v ∈ Ty.cells .arr2 b, Small 1048576 v) (hc : ∀ v ∈ Ty.cells .arr2 c, Small 1048576 v) (k : Bool → Option R) : law01_DecimalOrder a b c k = k true :=
  order_core a b c (arr2_i64 ha) (arr2_i64 hb) (arr2_i64 hc) k
end Go.Proofs.YtifgegmnngfckaaDoor

/-
  DecimalOrder: the statement where what it reads is of bulk at most 1048576: for every such input the law returns true, and each argument reads behind the call as it read before. Out of the plain law; printed by wip/tools/row.py.
-/
set_option linter.unusedVariables false
set_option maxRecDepth 100000
namespace Go.Proofs.YtifgegmnngfckaaDoor.decimalOrder
open Go.ChangeShapes Go.WideShapes Go.ChangeAt Go.RowKit Go.Yard Door

theorem run (a0 : Arr2) (a1 : Arr2) (a2 : Arr2) : specBy law01_DecimalOrder_p law01_DecimalOrder_q (law01_DecimalOrder_rr law01_DecimalOrder) specNo [.agg [.int .i64 a0.a, .int .i64 a0.b], .agg [.int .i64 a1.a, .int .i64 a1.b], .agg [.int .i64 a2.a, .int .i64 a2.b]] [] kOk = law01_DecimalOrder a0 a1 a2 (fun q0 => kOk (.bool q0) []) := by kernel_rfl

theorem contract (H : Type) (enc : TypeId × Value → H) (W : World) (base : Nat) (args : Array Value) (ds gs : List (DataW H)) (before : List MemPlace)
    (hval : ∀ (j : Nat) t v, Tryd.f14.params[j]? = some t → args[j]? = some v → Value.okWide Tryd.prog W .any base t v)
    (hW : DataW.Whole enc Tryd.prog Tryd.f14.params.toList Rows.decimalOrderSpec.vars false W args.toList ds gs before) (hL : laidMetH Tryd.prog Rows.decimalOrderUptoRow.laid W) (hk : Rows.uptoSmall H (ds ++ gs) = true) :
    Calls Tryd.prog 14 args W fun e W' => ∃ v, e = .returned v ∧ Rows.decimalOrderSpec.post enc Tryd.prog Tryd.f14 false true false false W args v W' := by
  have hW' := hW
  obtain ⟨p, q, hA0, hV, hpq, hfz, hnd⟩ := hW
  have hA : DataW.TrodAll enc Tryd.prog W 0 (fun _ => true) true [52, 52, 52] args.toList ds p := hA0
  have hval : ∀ (j : Nat) t v, (#[52, 52, 52] : Array Nat)[j]? = some t → args[j]? = some v → Value.okWide Tryd.prog W .any base t v := hval
  obtain ⟨v0, vs0, d0, ds0, p0, q0, hargs, rfl, rfl, h0, r0⟩ := trodAll_cons hA
  obtain ⟨v1, vs1, d1, ds1, p1, q1, rfl, rfl, rfl, h1, r1⟩ := trodAll_cons r0
  obtain ⟨v2, vs2, d2, ds2, p2, q2, rfl, rfl, rfl, h2, r2⟩ := trodAll_cons r1
  obtain ⟨rfl, rfl, rfl⟩ := trodAll_nil r2
  obtain rfl : args = #[v0, v1, v2] := by cases args; simp_all
  have hV' : DataW.TrodVars enc Tryd.prog W (fun _ => true) [] gs q := hV
  obtain ⟨rfl, rfl⟩ := trodVars_none hV'
  have hb : Rows.uptoBulkAll ([d0, d1, d2] ++ []) ≤ 1048576 := of_decide_eq_true hk
  simp only [List.append_nil, Rows.uptoBulkAll] at hb
  obtain ⟨a0, q0, s0⟩ := arg_agg (T := .arr2) (N := 1048576) leaves (by kernel_rfl) (by kernel_rfl) (hval 0 52 v0 rfl rfl) h0 (by omega) (Nat.le_of_ble_eq_true rfl)
  obtain ⟨a1, q1, s1⟩ := arg_agg (T := .arr2) (N := 1048576) leaves (by kernel_rfl) (by kernel_rfl) (hval 1 52 v1 rfl rfl) h1 (by omega) (Nat.le_of_ble_eq_true rfl)
  obtain ⟨a2, q2, s2⟩ := arg_agg (T := .arr2) (N := 1048576) leaves (by kernel_rfl) (by kernel_rfl) (hval 2 52 v2 rfl rfl) h2 (by omega) (Nat.le_of_ble_eq_true rfl)
  have ra : RepL W [] cfg0 [.agg [.int .i64 a0.a, .int .i64 a0.b], .agg [.int .i64 a1.a, .int .i64 a1.b], .agg [.int .i64 a2.a, .int .i64 a2.b]] #[v0, v1, v2].toList := (.cons q0 (.cons q1 (.cons q2 .nil)))
  obtain ⟨hsays, hblocks⟩ := lay_met (W := W) hL
  refine (calls_true Tryd.func14 rfl rfl (law01_DecimalOrder_S_ok Unit _ (specNo_ok _)) hsays hblocks ra ((run a0 a1 a2).trans (decimalOrder_true a0 a1 a2 s0 s1 s2 (fun q0 => kOk (.bool q0) [])))).mono fun e W' ⟨he, L⟩ => ⟨_, he, ?_⟩
  exact post_true (by kernel_rfl) (params_ok (by kernel_rfl)) rfl rfl rfl (show Tryd.prog.underlying 4 = some .bool by kernel_rfl) hW' L

theorem reads (os : Os) {H : Type} (enc : TypeId × Value → H) : (DataW.whole enc Tryd.prog ((laidWorld os).forCall (fun _ _ => 0) ⟨#[], #[.agg #[.int .i64 0, .int .i64 0], .agg #[.int .i64 0, .int .i64 0], .agg #[.int .i64 0, .int .i64 0]], []⟩).memory Tryd.f14.params.toList Rows.decimalOrderSpec.vars false (#[.agg #[.int .i64 0, .int .i64 0], .agg #[.int .i64 0, .int .i64 0], .agg #[.int .i64 0, .int .i64 0]] : Array Value).toList 8).map (fun x => (x.1, x.2.1)) = some ([.agg [.lit (.int .i64 0), .lit (.int .i64 0)], .agg [.lit (.int .i64 0), .lit (.int .i64 0)], .agg [.lit (.int .i64 0), .lit (.int .i64 0)]], []) := by kernel_rfl
theorem lifted (os : Os) (started : os.Started) (H : Type) (enc : TypeId × Value → H) (F : Stop.Interp) :
    ReturnsInHanded {} Tryd.checked os 14 .any ((Rows.OpenSpec.upto Rows.decimalOrderSpec).preRow enc Tryd.prog Tryd.f14 Rows.decimalOrderUptoRow.domain false Rows.decimalOrderUptoRow.laid) (((Rows.OpenSpec.upto Rows.decimalOrderSpec).at F).post enc Tryd.prog Tryd.f14 false true false false) := by
  obtain ⟨⟨x1, x2, x3⟩, hx, hx1⟩ := Option.map_eq_some_iff.1 (reads os enc)
  simp only [Prod.mk.injEq] at hx1
  obtain ⟨rfl, rfl⟩ := hx1
  refine returnsInHanded_of_row (C := Tryd.checked) (s := Rows.OpenSpec.upto Rows.decimalOrderSpec) own started (by kernel_rfl) Tryd.func14
    (witness_row_atRef (enc := enc) (C := Tryd.checked) false (laidWorld os) #[.agg #[.int .i64 0, .int .i64 0], .agg #[.int .i64 0, .int .i64 0], .agg #[.int .i64 0, .int .i64 0]] rfl (by kernel_rfl) (by kernel_rfl) (by kernel_rfl)
      (OpenSpec.preRow_of_cond 8 hx (by kernel_rfl) (fun k hk => by cases hk; kernel_rfl) (by kernel_rfl) (laid_met os _))) ?_
  intro W base args ds gs before hval hW _ hcond _ hL _ _
  exact contract H enc W base args ds gs before hval hW hL (hcond _ rfl)

theorem saidUpto : Rows.DecimalOrderUptoSaid :=
  OpenClaim.holds_of_cond 14 Tryd.f14 rfl rfl rfl rfl rfl rfl rfl ⟨rfl, rfl, rfl, rfl, rfl⟩ rfl rfl rfl rfl rfl (by kernel_rfl) Tryd.func14 (by kernel_rfl)
    (of_decide_eq_true (by kernel_rfl)) (by unfold Func.isWrapper; first | (rw [if_pos (by decide +kernel)]; kernel_rfl) | (rw [if_neg (by decide +kernel)]; exact ⟨rfl, rfl⟩))
    (fun os started H enc _ F => by rw [OpenClaim.pre_eq_preRow]; exact lifted os started H enc F)

theorem plain (f : FuncId) (fn : Func) (hf : Tryd.pinned.checked.prog.funcNamed "humpyard/humpyardlaw01.DecimalOrder" = some f) (hfn : Tryd.pinned.checked.prog.funcs[f]? = some fn) :
    true = Tryd.pinned.checked.prog.looks [] ∧ ∀ (j : Nat) t, fn.params[j]? = some t → Tryd.pinned.checked.prog.wantsStandIn t = false := by
  obtain rfl : f = 14 := Option.some.inj ((show Tryd.prog.funcNamed "humpyard/humpyardlaw01.DecimalOrder" = some 14 by kernel_rfl).symm.trans hf) |>.symm
  obtain rfl : fn = Tryd.f14 := (Option.some.inj (Tryd.func14.symm.trans hfn)).symm
  refine ⟨by kernel_rfl, fun j t ht => ?_⟩
  have hall : Tryd.f14.params.toList.all (fun t => !Tryd.prog.wantsStandIn t) = true := by kernel_rfl
  have hm : t ∈ Tryd.f14.params.toList := Array.mem_toList_iff.2 (Array.mem_of_getElem? ht)
  have := List.all_eq_true.1 hall t hm
  exact (show Tryd.prog.wantsStandIn t = false by simpa using this)
end Go.Proofs.YtifgegmnngfckaaDoor.decimalOrder
namespace Go.Proofs.YtifgegmnngfckaaDoor
open Go.RowKit
/-- THE SECOND FORM's CARD. -/
theorem decimalOrder_card_upto : Rows.DecimalOrderUptoCardSaid :=
  Claim7.holds_tied_plain_at .later [] _ _ _ _ decimalOrder.saidUpto (fun _ h => by cases h) (by kernel_rfl) (fun _ h => by cases h) decimalOrderUpto_row_tie rfl ⟨rfl, rfl⟩ (by kernel_rfl) rfl decimalOrder.plain (by kernel_rfl)
end Go.Proofs.YtifgegmnngfckaaDoor

