/-
  DecimalSums: for every input whose bulk is at most 1048576 the law returns true, and each argument reads behind the call as it read before; part 8 of 9 of the proof: an interpreter of the model's code over typed data, proved sound; the functions that the law reaches, printed as Lean functions and tied; the plain law. Own texts laid one behind the other.
-/
import Derived.KernelRfl
import Derived.Lib.ValidLaws
import Derived.Lib.MapLaws
import Derived.Lib.TrimUEq
import Derived.Lib.RuneBytes
import Derived.Test.YtifgegmnngfckaaDoorDecimalSumsB7
set_option linter.unusedSimpArgs false
set_option linter.unnecessarySimpa false
set_option linter.unusedVariables false
set_option linter.unusedSectionVars false
/-
  Functions of the program as pure Lean functions, and the ties; printed by wip/tools/emit.py.
-/
set_option maxRecDepth 100000
set_option linter.unusedVariables false
namespace Go.Proofs.YtifgegmnngfckaaDoor
open Go Go.Yard

/-! ### humpyard/humpyardlaw02.QuoteCut -/
abbrev law02_QuoteCut_ty (R : Type) : Type := (List Int) → Int → (Bool → Option R) → Option R
abbrev law02_QuoteCut_p : List Pat := [.leaf (.sl (.int .i64)), .leaf (.int .i64)]
abbrev law02_QuoteCut_q : List HPat := []
noncomputable def law02_QuoteCut_rr {R : Type} (fn : law02_QuoteCut_ty R) : Pat.dens law02_QuoteCut_p → HPat.dens law02_QuoteCut_q → (V → Heap → Option R) → Option R := fun x y k => fn x.1 x.2.1 (fun q0 => k (.bool q0) [])
noncomputable def law02_QuoteCut_E (R : Type) (law02_awake : law02_awake_ty R) (law02_Text : law02_Text_ty R) (law02_pick : law02_pick_ty R) (quote_Quote : quote_Quote_ty R) (quote_Unquote : quote_Unquote_ty R) : Env R := fun i => match i with
  | 17 => some (true, (specBy law02_awake_p law02_awake_q (law02_awake_rr law02_awake) specNo))
  | 18 => some (true, (specBy law02_Text_p law02_Text_q (law02_Text_rr law02_Text) specNo))
  | 20 => some (true, (specBy law02_pick_p law02_pick_q (law02_pick_rr law02_pick) specNo))
  | 21 => some (true, (specBy quote_Quote_p quote_Quote_q (quote_Quote_rr quote_Quote) specNo))
  | 22 => some (true, (specBy quote_Unquote_p quote_Unquote_q (quote_Unquote_rr quote_Unquote) specNo))
  | _ => none
theorem law02_QuoteCut_EOk (R : Type) : EOk Tryd.prog (law02_QuoteCut_E R law02_awake law02_Text law02_pick quote_Quote quote_Unquote) := by
  intro i b sp h
  unfold law02_QuoteCut_E at h
  split at h
  · cases h; exact ⟨(law02_awake_S_ok R _ (specNo_ok _)), fun h => nomatch h⟩
  · cases h; exact ⟨(law02_Text_S_ok R _ (specNo_ok _)), fun h => nomatch h⟩
  · cases h; exact ⟨(law02_pick_S_ok R _ (specNo_ok _)), fun h => nomatch h⟩
  · cases h; exact ⟨(quote_Quote_S_ok R _ (specNo_ok _)), fun h => nomatch h⟩
  · cases h; exact ⟨(quote_Unquote_S_ok R _ (specNo_ok _)), fun h => nomatch h⟩
  · cases h

noncomputable def law02_QuoteCut_T (R : Type) : Nat → Option (Hint × LSpec R) := fun i => match i with
  | _ => none

noncomputable def law02_QuoteCut_X {R : Type} (law02_awake : law02_awake_ty R) (law02_Text : law02_Text_ty R) (law02_pick : law02_pick_ty R) (quote_Quote : quote_Quote_ty R) (quote_Unquote : quote_Unquote_ty R) (x1 : List Int) (x2 : Int) (k0 : Bool → Option R) : Option R :=
  law02_awake (fun y3 => law02_Text x1 (fun y4 => quote_Quote y4 (fun y5 y6 => bif (!y3) then (k0 false) else (bif (!y6) then (k0 false) else (bif (y5 == ([] : Str)) then (k0 false) else (law02_pick x2 (y5.length : Int) (fun y8 => chk (decide ((0 : Int) ≤ y8) && decide (y8 ≤ y5.length)) (chk (decide ((0 : Int) ≤ y8)) (quote_Unquote ((y5.drop 0).take (y8.toNat - 0)) (fun y9 y10 y11 => bif (!y11) then (bif (y9 == ([] : Str)) then (k0 (y10 == 0)) else (k0 false)) else (k0 false)))))))))))
noncomputable def law02_QuoteCut {R : Type} : law02_QuoteCut_ty R := fun x1 x2 k0 => law02_QuoteCut_X law02_awake law02_Text law02_pick quote_Quote quote_Unquote x1 x2 k0
theorem law02_QuoteCut_ok {R : Type} (law02_awake : law02_awake_ty R) (law02_Text : law02_Text_ty R) (law02_pick : law02_pick_ty R) (quote_Quote : quote_Quote_ty R) (quote_Unquote : quote_Unquote_ty R) (x1 : List Int) (x2 : Int) (k : V → Heap → Option R) : funK tt (law02_QuoteCut_E R law02_awake law02_Text law02_pick quote_Quote quote_Unquote) (law02_QuoteCut_T R) false Tryd.f8 (codeOf Tryd.f8) [.sl (.int .i64) x1 .no, .int .i64 x2] [] k =
    law02_QuoteCut_X law02_awake law02_Text law02_pick quote_Quote quote_Unquote x1 x2 (fun q0 => k (.bool q0) []) := by kernel_rfl
theorem law02_QuoteCut_loops (R : Type) : ∀ a ∈ loopsOf (codeOf Tryd.f8), LoopOk tt (law02_QuoteCut_E R law02_awake law02_Text law02_pick quote_Quote quote_Unquote) (law02_QuoteCut_T R) 0 a := by
  refine loops_ok 0 (by kernel_rfl) fun i hi => ?_
  omega
theorem law02_QuoteCut_S_ok (R : Type) (other : Yard.Spec R) (ho : Yard.Spec.Ok Tryd.prog 8 other) : Yard.Spec.Ok Tryd.prog 8 (specBy law02_QuoteCut_p law02_QuoteCut_q (law02_QuoteCut_rr law02_QuoteCut) other) :=
  specBy_ok ho (funK_sound TT mixed (law02_QuoteCut_EOk R) (keep := false) rfl rfl rfl rfl 0 (law02_QuoteCut_loops R)) fun (x : Pat.dens law02_QuoteCut_p) (y : HPat.dens law02_QuoteCut_q) k => law02_QuoteCut_ok law02_awake law02_Text law02_pick quote_Quote quote_Unquote x.1 x.2.1 k

/-! ### humpyard/humpyardlaw02.QuoteWhole -/
abbrev law02_QuoteWhole_ty (R : Type) : Type := Str → (List Int) → (Bool → Option R) → Option R
abbrev law02_QuoteWhole_p : List Pat := [.leaf (.str), .leaf (.sl (.int .i64))]
abbrev law02_QuoteWhole_q : List HPat := []
noncomputable def law02_QuoteWhole_rr {R : Type} (fn : law02_QuoteWhole_ty R) : Pat.dens law02_QuoteWhole_p → HPat.dens law02_QuoteWhole_q → (V → Heap → Option R) → Option R := fun x y k => fn x.1 x.2.1 (fun q0 => k (.bool q0) [])
noncomputable def law02_QuoteWhole_E (R : Type) (law02_awake : law02_awake_ty R) (law02_Text : law02_Text_ty R) (quote_Whole : quote_Whole_ty R) : Env R := fun i => match i with
  | 17 => some (true, (specBy law02_awake_p law02_awake_q (law02_awake_rr law02_awake) specNo))
  | 18 => some (true, (specBy law02_Text_p law02_Text_q (law02_Text_rr law02_Text) specNo))
  | 24 => some (true, (specBy quote_Whole_p quote_Whole_q (quote_Whole_rr quote_Whole) specNo))
  | _ => none
theorem law02_QuoteWhole_EOk (R : Type) : EOk Tryd.prog (law02_QuoteWhole_E R law02_awake law02_Text quote_Whole) := by
  intro i b sp h
  unfold law02_QuoteWhole_E at h
  split at h
  · cases h; exact ⟨(law02_awake_S_ok R _ (specNo_ok _)), fun h => nomatch h⟩
  · cases h; exact ⟨(law02_Text_S_ok R _ (specNo_ok _)), fun h => nomatch h⟩
  · cases h; exact ⟨(quote_Whole_S_ok R _ (specNo_ok _)), fun h => nomatch h⟩
  · cases h

noncomputable def law02_QuoteWhole_T (R : Type) : Nat → Option (Hint × LSpec R) := fun i => match i with
  | _ => none

noncomputable def law02_QuoteWhole_X {R : Type} (law02_awake : law02_awake_ty R) (law02_Text : law02_Text_ty R) (quote_Whole : quote_Whole_ty R) (x1 : Str) (x2 : List Int) (k0 : Bool → Option R) : Option R :=
  law02_awake (fun y3 => law02_Text x2 (fun y4 => bif y3 then (quote_Whole y4 (fun y5 => bif y5 then (chk (decide (y4.length + x1.length ≤ 9223372036854775807)) (quote_Whole (y4 ++ x1) (fun y6 => quote_Whole x1 (fun y7 => bif (y6 == y7) then (chk (decide (x1.length + 1 ≤ 9223372036854775807)) (chk (decide ((x1 ++ ([97] : Str)).length + y4.length ≤ 9223372036854775807)) (quote_Whole ((x1 ++ ([97] : Str)) ++ y4) (fun y8 => quote_Whole x1 (fun y9 => k0 (y8 == y9)))))) else (k0 false))))) else (k0 false))) else (k0 false)))
noncomputable def law02_QuoteWhole {R : Type} : law02_QuoteWhole_ty R := fun x1 x2 k0 => law02_QuoteWhole_X law02_awake law02_Text quote_Whole x1 x2 k0
theorem law02_QuoteWhole_ok {R : Type} (law02_awake : law02_awake_ty R) (law02_Text : law02_Text_ty R) (quote_Whole : quote_Whole_ty R) (x1 : Str) (x2 : List Int) (k : V → Heap → Option R) : funK tt (law02_QuoteWhole_E R law02_awake law02_Text quote_Whole) (law02_QuoteWhole_T R) false Tryd.f9 (codeOf Tryd.f9) [.str x1, .sl (.int .i64) x2 .no] [] k =
    law02_QuoteWhole_X law02_awake law02_Text quote_Whole x1 x2 (fun q0 => k (.bool q0) []) := by kernel_rfl
theorem law02_QuoteWhole_loops (R : Type) : ∀ a ∈ loopsOf (codeOf Tryd.f9), LoopOk tt (law02_QuoteWhole_E R law02_awake law02_Text quote_Whole) (law02_QuoteWhole_T R) 0 a := by
  refine loops_ok 0 (by kernel_rfl) fun i hi => ?_
  omega
theorem law02_QuoteWhole_S_ok (R : Type) (other : Yard.Spec R) (ho : Yard.Spec.Ok Tryd.prog 9 other) : Yard.Spec.Ok Tryd.prog 9 (specBy law02_QuoteWhole_p law02_QuoteWhole_q (law02_QuoteWhole_rr law02_QuoteWhole) other) :=
  specBy_ok ho (funK_sound TT mixed (law02_QuoteWhole_EOk R) (keep := false) rfl rfl rfl rfl 0 (law02_QuoteWhole_loops R)) fun (x : Pat.dens law02_QuoteWhole_p) (y : HPat.dens law02_QuoteWhole_q) k => law02_QuoteWhole_ok law02_awake law02_Text quote_Whole x.1 x.2.1 k

/-! ### (*humpyard/decimal.reader).sign -/
abbrev decimal_reader_sign_e74a_ty (R : Type) : Type := Str → Str → (Int → Str → Option R) → Option R
abbrev decimal_reader_sign_e74a_p : List Pat := [.leaf (.ptr 0 0), .leaf (.str)]
abbrev decimal_reader_sign_e74a_q : List HPat := [.cells [.str]]
noncomputable def decimal_reader_sign_e74a_rr {R : Type} (fn : decimal_reader_sign_e74a_ty R) : Pat.dens decimal_reader_sign_e74a_p → HPat.dens decimal_reader_sign_e74a_q → (V → Heap → Option R) → Option R := fun x y k => fn x.2.1 y.1.1 (fun q0 q1 => k (.int .u8 q0) [.cells [.str q1]])
noncomputable def decimal_reader_sign_e74a_E (R : Type) : Env R := fun i => match i with
  | 85 => some (true, (idx_S R))
  | _ => none
theorem decimal_reader_sign_e74a_EOk (R : Type) : EOk Tryd.prog (decimal_reader_sign_e74a_E R) := by
  intro i b sp h
  unfold decimal_reader_sign_e74a_E at h
  split at h
  · cases h; exact ⟨(idx_ok), fun h => nomatch h⟩
  · cases h

noncomputable def decimal_reader_sign_e74a_T (R : Type) : Nat → Option (Hint × LSpec R) := fun i => match i with
  | _ => none

noncomputable def decimal_reader_sign_e74a_X {R : Type} (x1 : Str) (x2 : Str) (k0 : Int → Str → Option R) : Option R :=
  bif (x2 == ([] : Str)) then (k0 0 x2) else (chk (decide ((0 : Int) < x2.length)) (bif (decide ((idxByte x1 ((x2.getD 0 0).toNat : Int)) < (0 : Int))) then (k0 0 x2) else (chk (decide ((0 : Int) < x2.length)) (chk (decide ((0 : Int) ≤ (x2.length : Int)) && decide ((x2.length : Int) ≤ x2.length)) (chk (decide ((1 : Int) ≤ (x2.length : Int))) (k0 ((x2.getD 0 0).toNat : Int) ((x2.drop 1).take ((x2.length : Int).toNat - 1))))))))
noncomputable def decimal_reader_sign_e74a {R : Type} : decimal_reader_sign_e74a_ty R := fun x1 x2 k0 => decimal_reader_sign_e74a_X x1 x2 k0
theorem decimal_reader_sign_e74a_ok {R : Type} (x1 : Str) (x2 : Str) (k : V → Heap → Option R) : funK tt (decimal_reader_sign_e74a_E R) (decimal_reader_sign_e74a_T R) false Tryd.f58 (codeOf Tryd.f58) [.ptr 0 0, .str x1] [.cells [.str x2]] k =
    decimal_reader_sign_e74a_X x1 x2 (fun q0 q1 => k (.int .u8 q0) [.cells [.str q1]]) := by kernel_rfl
theorem decimal_reader_sign_e74a_loops (R : Type) : ∀ a ∈ loopsOf (codeOf Tryd.f58), LoopOk tt (decimal_reader_sign_e74a_E R) (decimal_reader_sign_e74a_T R) 1 a := by
  refine loops_ok 0 (by kernel_rfl) fun i hi => ?_
  omega
theorem decimal_reader_sign_e74a_S_ok (R : Type) (other : Yard.Spec R) (ho : Yard.Spec.Ok Tryd.prog 58 other) : Yard.Spec.Ok Tryd.prog 58 (specBy decimal_reader_sign_e74a_p decimal_reader_sign_e74a_q (decimal_reader_sign_e74a_rr decimal_reader_sign_e74a) other) :=
  specBy_ok ho (funK_sound TT mixed (decimal_reader_sign_e74a_EOk R) (keep := false) rfl rfl rfl rfl 1 (decimal_reader_sign_e74a_loops R)) fun (x : Pat.dens decimal_reader_sign_e74a_p) (y : HPat.dens decimal_reader_sign_e74a_q) k => decimal_reader_sign_e74a_ok x.2.1 y.1.1 k

/-! ### (*humpyard/decimal.reader).digits -/
abbrev decimal_reader_digits_abbd_ty (R : Type) : Type := Str → (Str → Str → Option R) → Option R
abbrev decimal_reader_digits_abbd_p : List Pat := [.leaf (.ptr 0 0)]
abbrev decimal_reader_digits_abbd_q : List HPat := [.cells [.str]]
noncomputable def decimal_reader_digits_abbd_rr {R : Type} (fn : decimal_reader_digits_abbd_ty R) : Pat.dens decimal_reader_digits_abbd_p → HPat.dens decimal_reader_digits_abbd_q → (V → Heap → Option R) → Option R := fun x y k => fn y.1.1 (fun q0 q1 => k (.str q0) [.cells [.str q1]])
noncomputable def decimal_reader_digits_abbd_E (R : Type) : Env R := fun i => match i with
  | 61 => some (true, (trimL_S R))
  | _ => none
theorem decimal_reader_digits_abbd_EOk (R : Type) : EOk Tryd.prog (decimal_reader_digits_abbd_E R) := by
  intro i b sp h
  unfold decimal_reader_digits_abbd_E at h
  split at h
  · cases h; exact ⟨(trimL_ok), fun h => nomatch h⟩
  · cases h

noncomputable def decimal_reader_digits_abbd_T (R : Type) : Nat → Option (Hint × LSpec R) := fun i => match i with
  | _ => none

noncomputable def decimal_reader_digits_abbd_X {R : Type} (x1 : Str) (k0 : Str → Str → Option R) : Option R :=
  chk (isAsc ([48, 49, 50, 51, 52, 53, 54, 55, 56, 57] : Str) && decide (([48, 49, 50, 51, 52, 53, 54, 55, 56, 57] : Str).length < 4294967281)) (chk (decide ((0 : Int) ≤ (IntKind.i64.wrap ((x1.length : Int) - ((trimL x1 ([48, 49, 50, 51, 52, 53, 54, 55, 56, 57] : Str)).length : Int)))) && decide ((IntKind.i64.wrap ((x1.length : Int) - ((trimL x1 ([48, 49, 50, 51, 52, 53, 54, 55, 56, 57] : Str)).length : Int))) ≤ x1.length)) (chk (decide ((0 : Int) ≤ (IntKind.i64.wrap ((x1.length : Int) - ((trimL x1 ([48, 49, 50, 51, 52, 53, 54, 55, 56, 57] : Str)).length : Int))))) (k0 ((x1.drop 0).take ((IntKind.i64.wrap ((x1.length : Int) - ((trimL x1 ([48, 49, 50, 51, 52, 53, 54, 55, 56, 57] : Str)).length : Int))).toNat - 0)) (trimL x1 ([48, 49, 50, 51, 52, 53, 54, 55, 56, 57] : Str)))))
noncomputable def decimal_reader_digits_abbd {R : Type} : decimal_reader_digits_abbd_ty R := fun x1 k0 => decimal_reader_digits_abbd_X x1 k0
theorem decimal_reader_digits_abbd_ok {R : Type} (x1 : Str) (k : V → Heap → Option R) : funK tt (decimal_reader_digits_abbd_E R) (decimal_reader_digits_abbd_T R) false Tryd.f59 (codeOf Tryd.f59) [.ptr 0 0] [.cells [.str x1]] k =
    decimal_reader_digits_abbd_X x1 (fun q0 q1 => k (.str q0) [.cells [.str q1]]) := by kernel_rfl
theorem decimal_reader_digits_abbd_loops (R : Type) : ∀ a ∈ loopsOf (codeOf Tryd.f59), LoopOk tt (decimal_reader_digits_abbd_E R) (decimal_reader_digits_abbd_T R) 1 a := by
  refine loops_ok 0 (by kernel_rfl) fun i hi => ?_
  omega
theorem decimal_reader_digits_abbd_S_ok (R : Type) (other : Yard.Spec R) (ho : Yard.Spec.Ok Tryd.prog 59 other) : Yard.Spec.Ok Tryd.prog 59 (specBy decimal_reader_digits_abbd_p decimal_reader_digits_abbd_q (decimal_reader_digits_abbd_rr decimal_reader_digits_abbd) other) :=
  specBy_ok ho (funK_sound TT mixed (decimal_reader_digits_abbd_EOk R) (keep := false) rfl rfl rfl rfl 1 (decimal_reader_digits_abbd_loops R)) fun (x : Pat.dens decimal_reader_digits_abbd_p) (y : HPat.dens decimal_reader_digits_abbd_q) k => decimal_reader_digits_abbd_ok y.1.1 k

/-! ### (*humpyard/decimal.reader).exponent -/
abbrev decimal_reader_exponent_abbd_ty (R : Type) : Type := Str → (Int → Bool → Str → Option R) → Option R
abbrev decimal_reader_exponent_abbd_p : List Pat := [.leaf (.ptr 0 0)]
abbrev decimal_reader_exponent_abbd_q : List HPat := [.cells [.str]]
noncomputable def decimal_reader_exponent_abbd_rr {R : Type} (fn : decimal_reader_exponent_abbd_ty R) : Pat.dens decimal_reader_exponent_abbd_p → HPat.dens decimal_reader_exponent_abbd_q → (V → Heap → Option R) → Option R := fun x y k => fn y.1.1 (fun q0 q1 q2 => k (.tuple [.int .i64 q0, .bool q1]) [.cells [.str q2]])
noncomputable def decimal_reader_exponent_abbd_E (R : Type) (decimal_reader_sign_e74a : decimal_reader_sign_e74a_ty R) (decimal_reader_digits_abbd : decimal_reader_digits_abbd_ty R) : Env R := fun i => match i with
  | 58 => some (false, (specBy decimal_reader_sign_e74a_p decimal_reader_sign_e74a_q (decimal_reader_sign_e74a_rr decimal_reader_sign_e74a) specNo))
  | 59 => some (false, (specBy decimal_reader_digits_abbd_p decimal_reader_digits_abbd_q (decimal_reader_digits_abbd_rr decimal_reader_digits_abbd) specNo))
  | 63 => some (true, (atoi_S R))
  | _ => none
theorem decimal_reader_exponent_abbd_EOk (R : Type) : EOk Tryd.prog (decimal_reader_exponent_abbd_E R decimal_reader_sign_e74a decimal_reader_digits_abbd) := by
  intro i b sp h
  unfold decimal_reader_exponent_abbd_E at h
  split at h
  · cases h; exact ⟨(decimal_reader_sign_e74a_S_ok R _ (specNo_ok _)), fun _ h => nomatch h⟩
  · cases h; exact ⟨(decimal_reader_digits_abbd_S_ok R _ (specNo_ok _)), fun _ h => nomatch h⟩
  · cases h; exact ⟨(atoi_ok), fun h => nomatch h⟩
  · cases h

noncomputable def decimal_reader_exponent_abbd_T (R : Type) : Nat → Option (Hint × LSpec R) := fun i => match i with
  | _ => none

noncomputable def decimal_reader_exponent_abbd_X {R : Type} (decimal_reader_sign_e74a : decimal_reader_sign_e74a_ty R) (decimal_reader_digits_abbd : decimal_reader_digits_abbd_ty R) (x1 : Str) (k0 : Int → Bool → Str → Option R) : Option R :=
  decimal_reader_sign_e74a ([43, 45] : Str) x1 (fun y2 y3 => decimal_reader_digits_abbd y3 (fun y4 y5 => chk (decide (y4.length ≤ 281474976710656)) (bif atoiOk y4 then (bif (decide ((atoiVal y4) > (1000000 : Int))) then (bif (y2 == 45) then (k0 (-1000000) (!(y4 == ([] : Str))) y5) else (k0 1000000 (!(y4 == ([] : Str))) y5)) else (bif (y2 == 45) then (k0 (IntKind.i64.wrap (0 - (atoiVal y4))) (!(y4 == ([] : Str))) y5) else (k0 (atoiVal y4) (!(y4 == ([] : Str))) y5))) else (bif (!(y4 == ([] : Str))) then (bif (y2 == 45) then (k0 (-1000000) (!(y4 == ([] : Str))) y5) else (k0 1000000 (!(y4 == ([] : Str))) y5)) else (bif (decide ((atoiVal y4) > (1000000 : Int))) then (bif (y2 == 45) then (k0 (-1000000) (!(y4 == ([] : Str))) y5) else (k0 1000000 (!(y4 == ([] : Str))) y5)) else (bif (y2 == 45) then (k0 (IntKind.i64.wrap (0 - (atoiVal y4))) (!(y4 == ([] : Str))) y5) else (k0 (atoiVal y4) (!(y4 == ([] : Str))) y5)))))))
noncomputable def decimal_reader_exponent_abbd {R : Type} : decimal_reader_exponent_abbd_ty R := fun x1 k0 => decimal_reader_exponent_abbd_X decimal_reader_sign_e74a decimal_reader_digits_abbd x1 k0
theorem decimal_reader_exponent_abbd_ok {R : Type} (decimal_reader_sign_e74a : decimal_reader_sign_e74a_ty R) (decimal_reader_digits_abbd : decimal_reader_digits_abbd_ty R) (x1 : Str) (k : V → Heap → Option R) : funK tt (decimal_reader_exponent_abbd_E R decimal_reader_sign_e74a decimal_reader_digits_abbd) (decimal_reader_exponent_abbd_T R) false Tryd.f60 (codeOf Tryd.f60) [.ptr 0 0] [.cells [.str x1]] k =
    decimal_reader_exponent_abbd_X decimal_reader_sign_e74a decimal_reader_digits_abbd x1 (fun q0 q1 q2 => k (.tuple [.int .i64 q0, .bool q1]) [.cells [.str q2]]) := by kernel_rfl
theorem decimal_reader_exponent_abbd_loops (R : Type) : ∀ a ∈ loopsOf (codeOf Tryd.f60), LoopOk tt (decimal_reader_exponent_abbd_E R decimal_reader_sign_e74a decimal_reader_digits_abbd) (decimal_reader_exponent_abbd_T R) 1 a := by
  refine loops_ok 0 (by kernel_rfl) fun i hi => ?_
  omega
theorem decimal_reader_exponent_abbd_S_ok (R : Type) (other : Yard.Spec R) (ho : Yard.Spec.Ok Tryd.prog 60 other) : Yard.Spec.Ok Tryd.prog 60 (specBy decimal_reader_exponent_abbd_p decimal_reader_exponent_abbd_q (decimal_reader_exponent_abbd_rr decimal_reader_exponent_abbd) other) :=
  specBy_ok ho (funK_sound TT mixed (decimal_reader_exponent_abbd_EOk R) (keep := false) rfl rfl rfl rfl 1 (decimal_reader_exponent_abbd_loops R)) fun (x : Pat.dens decimal_reader_exponent_abbd_p) (y : HPat.dens decimal_reader_exponent_abbd_q) k => decimal_reader_exponent_abbd_ok decimal_reader_sign_e74a decimal_reader_digits_abbd y.1.1 k

/-! ### humpyard/decimal.within[int] -/
abbrev decimal_within_int_ty (R : Type) : Type := Int → Int → Int → (Bool → Option R) → Option R
abbrev decimal_within_int_p : List Pat := [.leaf (.int .i64), .leaf (.int .i64), .leaf (.int .i64)]
abbrev decimal_within_int_q : List HPat := []
noncomputable def decimal_within_int_rr {R : Type} (fn : decimal_within_int_ty R) : Pat.dens decimal_within_int_p → HPat.dens decimal_within_int_q → (V → Heap → Option R) → Option R := fun x y k => fn x.1 x.2.1 x.2.2.1 (fun q0 => k (.bool q0) [])
noncomputable def decimal_within_int_E (R : Type) : Env R := fun i => match i with
  | _ => none
theorem decimal_within_int_EOk (R : Type) : EOk Tryd.prog (decimal_within_int_E R) := by
  intro i b sp h
  unfold decimal_within_int_E at h
  split at h
  · cases h

noncomputable def decimal_within_int_T (R : Type) : Nat → Option (Hint × LSpec R) := fun i => match i with
  | _ => none

noncomputable def decimal_within_int_X {R : Type} (x1 : Int) (x2 : Int) (x3 : Int) (k0 : Bool → Option R) : Option R :=
  bif (decide (x1 ≤ x2)) then (k0 (decide (x2 ≤ x3))) else (k0 false)
noncomputable def decimal_within_int {R : Type} : decimal_within_int_ty R := fun x1 x2 x3 k0 => decimal_within_int_X x1 x2 x3 k0
theorem decimal_within_int_ok {R : Type} (x1 : Int) (x2 : Int) (x3 : Int) (k : V → Heap → Option R) : funK tt (decimal_within_int_E R) (decimal_within_int_T R) false Tryd.f64 (codeOf Tryd.f64) [.int .i64 x1, .int .i64 x2, .int .i64 x3] [] k =
    decimal_within_int_X x1 x2 x3 (fun q0 => k (.bool q0) []) := by kernel_rfl
theorem decimal_within_int_loops (R : Type) : ∀ a ∈ loopsOf (codeOf Tryd.f64), LoopOk tt (decimal_within_int_E R) (decimal_within_int_T R) 0 a := by
  refine loops_ok 0 (by kernel_rfl) fun i hi => ?_
  omega
theorem decimal_within_int_S_ok (R : Type) (other : Yard.Spec R) (ho : Yard.Spec.Ok Tryd.prog 64 other) : Yard.Spec.Ok Tryd.prog 64 (specBy decimal_within_int_p decimal_within_int_q (decimal_within_int_rr decimal_within_int) other) :=
  specBy_ok ho (funK_sound TT mixed (decimal_within_int_EOk R) (keep := false) rfl rfl rfl rfl 0 (decimal_within_int_loops R)) fun (x : Pat.dens decimal_within_int_p) (y : HPat.dens decimal_within_int_q) k => decimal_within_int_ok x.1 x.2.1 x.2.2.1 k

/-! ### humpyard/decimal.Make -/
abbrev decimal_Make_ty (R : Type) : Type := Int → Int → (Dcm → Bool → Option R) → Option R
abbrev decimal_Make_p : List Pat := [.leaf (.int .i64), .leaf (.int .i64)]
abbrev decimal_Make_q : List HPat := []
noncomputable def decimal_Make_rr {R : Type} (fn : decimal_Make_ty R) : Pat.dens decimal_Make_p → HPat.dens decimal_Make_q → (V → Heap → Option R) → Option R := fun x y k => fn x.1 x.2.1 (fun q0 q1 => k (.tuple [.agg [.int .i64 q0.mant, .int .i64 q0.exp], .bool q1]) [])
abbrev decimal_Make_4_0_ty (R : Type) : Type := Nat → Int → Int → Dcm → (Int → Int → Dcm → Option R) → Option R
noncomputable def decimal_Make_E (R : Type) (decimal_within_int : decimal_within_int_ty R) : Env R := fun i => match i with
  | 64 => some (true, (specBy decimal_within_int_p decimal_within_int_q (decimal_within_int_rr decimal_within_int) specNo))
  | _ => none
theorem decimal_Make_EOk (R : Type) : EOk Tryd.prog (decimal_Make_E R decimal_within_int) := by
  intro i b sp h
  unfold decimal_Make_E at h
  split at h
  · cases h; exact ⟨(decimal_within_int_S_ok R _ (specNo_ok _)), fun h => nomatch h⟩
  · cases h

noncomputable def decimal_Make_4_0_B {R : Type} (rec' : Int → Int → Dcm → Option R) (x3 : Int) (x4 : Int) (x5 : Dcm) (e0 : Int → Int → Dcm → Option R) : Option R :=
  bif ((Int.tmod x3 10) == 0) then (rec' (IntKind.i64.wrap (Int.tdiv x3 10)) (IntKind.i64.wrap (x4 + 1)) x5) else (e0 x3 x4 x5)
noncomputable def decimal_Make_4_0_L {R : Type} : decimal_Make_4_0_ty R
  | 0, _, _, _, _ => none
  | n + 1, x0', x1', x2', e0 => decimal_Make_4_0_B (fun x0' x1' x2' => decimal_Make_4_0_L n x0' x1' x2' e0) x0' x1' x2' e0
noncomputable def decimal_Make_4_0_h : Hint := { live := [0, 1, 4], own := [], rows := [], cells := [], drop := [], out := [0, 1, 4, 5] }
abbrev decimal_Make_4_0_D : Type := Int × Int × Dcm
noncomputable def decimal_Make_4_0_enc : decimal_Make_4_0_D → St := fun d => ⟨[.int .i64 d.1, .int .i64 d.2.1, .undef, .undef, .ptr 0 0, .undef, .undef, .undef, .undef, .undef, .undef, .undef, .undef, .undef, .undef, .undef, .undef, .undef, .undef, .undef, .undef, .undef, .undef, .undef, .undef, .undef, .undef, .undef, .undef, .undef], [.cells [.int .i64 d.2.2.mant, .int .i64 d.2.2.exp]]⟩
noncomputable def decimal_Make_4_0_x0 {R : Type} (K : Ex → St → Option R) (q0 : Int) (q1 : Int) (q2 : Dcm) : Option R := K (.exit 0) ⟨[.int .i64 q0, .int .i64 q1, .undef, .undef, .ptr 0 0, .undef, .undef, .undef, .undef, .undef, .undef, .undef, .undef, .undef, .undef, .undef, .undef, .undef, .undef, .undef, .undef, .undef, .undef, .undef, .undef, .undef, .undef, .undef, .undef, .undef], [.cells [.int .i64 q2.mant, .int .i64 q2.exp]]⟩
noncomputable def decimal_Make_4_0_s {R : Type} (K : Ex → St → Option R) (rc : decimal_Make_4_0_D → Option R) (d : decimal_Make_4_0_D) : Option R := decimal_Make_4_0_B (fun z0 z1 z2 => rc (z0, z1, z2)) d.1 d.2.1 d.2.2 (decimal_Make_4_0_x0 K)
noncomputable def decimal_Make_4_0_A {R : Type} (K : Ex → St → Option R) (n : Nat) (d : decimal_Make_4_0_D) : Option R := decimal_Make_4_0_L n d.1 d.2.1 d.2.2 (decimal_Make_4_0_x0 K)
abbrev decimal_Make_4_0_p : List Pat := [.leaf (.int .i64), .leaf (.int .i64), .leaf (.undef), .leaf (.undef), .leaf (.ptr 0 0), .leaf (.undef), .leaf (.undef), .leaf (.undef), .leaf (.undef), .leaf (.undef), .leaf (.undef), .leaf (.undef), .leaf (.undef), .leaf (.undef), .leaf (.undef), .leaf (.undef), .leaf (.undef), .leaf (.undef), .leaf (.undef), .leaf (.undef), .leaf (.undef), .leaf (.undef), .leaf (.undef), .leaf (.undef), .leaf (.undef), .leaf (.undef), .leaf (.undef), .leaf (.undef), .leaf (.undef), .leaf (.undef)]
abbrev decimal_Make_4_0_q : List HPat := [.cells [.int .i64, .int .i64]]
noncomputable def decimal_Make_4_0_f (x : Pat.dens decimal_Make_4_0_p) (y : HPat.dens decimal_Make_4_0_q) : Nat := (Int.natAbs x.1 + Int.natAbs x.2.1 + Dcm.fu (⟨y.1.1, y.1.2.1⟩ : Dcm) + 64)
noncomputable def decimal_Make_4_0_d (x : Pat.dens decimal_Make_4_0_p) (y : HPat.dens decimal_Make_4_0_q) : decimal_Make_4_0_D := (x.1, x.2.1, (⟨y.1.1, y.1.2.1⟩ : Dcm))
noncomputable def decimal_Make_4_0_rr {R : Type} (L : decimal_Make_4_0_ty R) : Pat.dens decimal_Make_4_0_p → HPat.dens decimal_Make_4_0_q → (Ex → St → Option R) → Option R := fun x y K => L (decimal_Make_4_0_f x y) x.1 x.2.1 (⟨y.1.1, y.1.2.1⟩ : Dcm) (decimal_Make_4_0_x0 K)
noncomputable def decimal_Make_T (R : Type) (decimal_Make_4_0_L : decimal_Make_4_0_ty R) : Nat → Option (Hint × LSpec R) := fun i => match i with
  | 4 => some (decimal_Make_4_0_h, (loopBy decimal_Make_4_0_p decimal_Make_4_0_q (decimal_Make_4_0_rr decimal_Make_4_0_L) loopNo))
  | _ => none

theorem decimal_Make_4_0_B_ok {R : Type} (decimal_within_int : decimal_within_int_ty R) (decimal_Make_4_0_L : decimal_Make_4_0_ty R) (K : Ex → St → Option R) (rc : St → Option R) (d : decimal_Make_4_0_D) : roundOf tt (decimal_Make_E R decimal_within_int) (decimal_Make_T R decimal_Make_4_0_L) 0 ((loopsOf (codeOf Tryd.f32)).getD 0 .skip) decimal_Make_4_0_h (decimal_Make_4_0_enc d) rc K = decimal_Make_4_0_s K (fun d => rc (decimal_Make_4_0_enc d)) d := by kernel_rfl
theorem decimal_Make_4_0_A_succ {R : Type} (K : Ex → St → Option R) (n : Nat) (d : decimal_Make_4_0_D) : decimal_Make_4_0_A K (n + 1) d = decimal_Make_4_0_s K (decimal_Make_4_0_A K n) d := by kernel_rfl
theorem decimal_Make_4_0_A_zero {R : Type} (K : Ex → St → Option R) (d : decimal_Make_4_0_D) : decimal_Make_4_0_A K 0 d = none := by kernel_rfl
theorem decimal_Make_4_0_e_ok (x : Pat.dens decimal_Make_4_0_p) (y : HPat.dens decimal_Make_4_0_q) : (⟨Pat.encL decimal_Make_4_0_p x, HPat.encL decimal_Make_4_0_q y⟩ : St) = decimal_Make_4_0_enc (decimal_Make_4_0_d x y) := by kernel_rfl
theorem decimal_Make_4_0_r_ok {R : Type} (x : Pat.dens decimal_Make_4_0_p) (y : HPat.dens decimal_Make_4_0_q) (K : Ex → St → Option R) : decimal_Make_4_0_rr (decimal_Make_4_0_L) x y K = decimal_Make_4_0_A K (decimal_Make_4_0_f x y) (decimal_Make_4_0_d x y) := by kernel_rfl
theorem decimal_Make_4_0_ok {R : Type} (other : LSpec R) (ho : LsOk tt (decimal_Make_E R decimal_within_int) (decimal_Make_T R decimal_Make_4_0_L) 0 ((loopsOf (codeOf Tryd.f32)).getD 0 .skip) decimal_Make_4_0_h other) : LsOk tt (decimal_Make_E R decimal_within_int) (decimal_Make_T R decimal_Make_4_0_L) 0 ((loopsOf (codeOf Tryd.f32)).getD 0 .skip) decimal_Make_4_0_h (loopBy decimal_Make_4_0_p decimal_Make_4_0_q (decimal_Make_4_0_rr (decimal_Make_4_0_L)) other) :=
  loopBy_tie (A := decimal_Make_4_0_A) ho (loop_tie decimal_Make_4_0_enc (decimal_Make_4_0_s) (decimal_Make_4_0_A) (decimal_Make_4_0_A_zero) (decimal_Make_4_0_B_ok decimal_within_int decimal_Make_4_0_L) (decimal_Make_4_0_A_succ)) decimal_Make_4_0_f decimal_Make_4_0_d decimal_Make_4_0_e_ok (decimal_Make_4_0_r_ok)

noncomputable def decimal_Make_X {R : Type} (decimal_within_int : decimal_within_int_ty R) (decimal_Make_4_0_L : decimal_Make_4_0_ty R) (x1 : Int) (x2 : Int) (k0 : Dcm → Bool → Option R) : Option R :=
  bif (x1 == 0) then (k0 (⟨0, 0⟩ : Dcm) true) else (decimal_Make_4_0_L (Int.natAbs x1 + Int.natAbs (min x2 1000000) + Dcm.fu (⟨0, 0⟩ : Dcm) + 64) x1 (min x2 1000000) (⟨0, 0⟩ : Dcm) (fun y6 y7 y8 => decimal_within_int (-1000000000000000) y6 1000000000000000 (fun y9 => bif (!y9) then (k0 (⟨0, 0⟩ : Dcm) false) else (decimal_within_int (-9) y7 9 (fun y10 => bif (!y10) then (k0 (⟨0, 0⟩ : Dcm) false) else (k0 (⟨y6, y7⟩ : Dcm) true))))))
noncomputable def decimal_Make {R : Type} : decimal_Make_ty R := fun x1 x2 k0 => decimal_Make_X decimal_within_int decimal_Make_4_0_L x1 x2 k0
theorem decimal_Make_ok {R : Type} (decimal_within_int : decimal_within_int_ty R) (decimal_Make_4_0_L : decimal_Make_4_0_ty R) (x1 : Int) (x2 : Int) (k : V → Heap → Option R) : funK tt (decimal_Make_E R decimal_within_int) (decimal_Make_T R decimal_Make_4_0_L) false Tryd.f32 (codeOf Tryd.f32) [.int .i64 x1, .int .i64 x2] [] k =
    decimal_Make_X decimal_within_int decimal_Make_4_0_L x1 x2 (fun q0 q1 => k (.tuple [.agg [.int .i64 q0.mant, .int .i64 q0.exp], .bool q1]) []) := by kernel_rfl
theorem decimal_Make_loops (R : Type) : ∀ a ∈ loopsOf (codeOf Tryd.f32), LoopOk tt (decimal_Make_E R decimal_within_int) (decimal_Make_T R decimal_Make_4_0_L) 0 a := by
  refine loops_ok 1 (by kernel_rfl) fun i hi => ?_
  match i, hi with
  | 0, _ => exact loopOk_some (by kernel_rfl) (decimal_Make_4_0_ok _ loopNo_ok)
  | n + 1, hi => omega
theorem decimal_Make_S_ok (R : Type) (other : Yard.Spec R) (ho : Yard.Spec.Ok Tryd.prog 32 other) : Yard.Spec.Ok Tryd.prog 32 (specBy decimal_Make_p decimal_Make_q (decimal_Make_rr decimal_Make) other) :=
  specBy_ok ho (funK_sound TT mixed (decimal_Make_EOk R) (keep := false) rfl rfl rfl rfl 0 (decimal_Make_loops R)) fun (x : Pat.dens decimal_Make_p) (y : HPat.dens decimal_Make_q) k => decimal_Make_ok decimal_within_int decimal_Make_4_0_L x.1 x.2.1 k

/-! ### humpyard/decimal.Parse -/
abbrev decimal_Parse_ty (R : Type) : Type := Str → (Dcm → Bool → Option R) → Option R
abbrev decimal_Parse_p : List Pat := [.leaf (.str)]
abbrev decimal_Parse_q : List HPat := []
noncomputable def decimal_Parse_rr {R : Type} (fn : decimal_Parse_ty R) : Pat.dens decimal_Parse_p → HPat.dens decimal_Parse_q → (V → Heap → Option R) → Option R := fun x y k => fn x.1 (fun q0 q1 => k (.tuple [.agg [.int .i64 q0.mant, .int .i64 q0.exp], .bool q1]) [])
noncomputable def decimal_Parse_E (R : Type) (decimal_Make : decimal_Make_ty R) (decimal_reader_sign_e74a : decimal_reader_sign_e74a_ty R) (decimal_reader_digits_abbd : decimal_reader_digits_abbd_ty R) (decimal_reader_exponent_abbd : decimal_reader_exponent_abbd_ty R) : Env R := fun i => match i with
  | 32 => some (true, (specBy decimal_Make_p decimal_Make_q (decimal_Make_rr decimal_Make) specNo))
  | 58 => some (false, (specBy decimal_reader_sign_e74a_p decimal_reader_sign_e74a_q (decimal_reader_sign_e74a_rr decimal_reader_sign_e74a) specNo))
  | 59 => some (false, (specBy decimal_reader_digits_abbd_p decimal_reader_digits_abbd_q (decimal_reader_digits_abbd_rr decimal_reader_digits_abbd) specNo))
  | 60 => some (false, (specBy decimal_reader_exponent_abbd_p decimal_reader_exponent_abbd_q (decimal_reader_exponent_abbd_rr decimal_reader_exponent_abbd) specNo))
  | 61 => some (true, (trimL_S R))
  | 62 => some (true, (trimR_S R))
  | 63 => some (true, (atoi_S R))
  | _ => none
theorem decimal_Parse_EOk (R : Type) : EOk Tryd.prog (decimal_Parse_E R decimal_Make decimal_reader_sign_e74a decimal_reader_digits_abbd decimal_reader_exponent_abbd) := by
  intro i b sp h
  unfold decimal_Parse_E at h
  split at h
  · cases h; exact ⟨(decimal_Make_S_ok R _ (specNo_ok _)), fun h => nomatch h⟩
  · cases h; exact ⟨(decimal_reader_sign_e74a_S_ok R _ (specNo_ok _)), fun _ h => nomatch h⟩
  · cases h; exact ⟨(decimal_reader_digits_abbd_S_ok R _ (specNo_ok _)), fun _ h => nomatch h⟩
  · cases h; exact ⟨(decimal_reader_exponent_abbd_S_ok R _ (specNo_ok _)), fun _ h => nomatch h⟩
  · cases h; exact ⟨(trimL_ok), fun h => nomatch h⟩
  · cases h; exact ⟨(trimR_ok), fun h => nomatch h⟩
  · cases h; exact ⟨(atoi_ok), fun h => nomatch h⟩
  · cases h

noncomputable def decimal_Parse_T (R : Type) : Nat → Option (Hint × LSpec R) := fun i => match i with
  | _ => none

noncomputable def decimal_Parse_X {R : Type} (decimal_Make : decimal_Make_ty R) (decimal_reader_sign_e74a : decimal_reader_sign_e74a_ty R) (decimal_reader_digits_abbd : decimal_reader_digits_abbd_ty R) (decimal_reader_exponent_abbd : decimal_reader_exponent_abbd_ty R) (x1 : Str) (k0 : Dcm → Bool → Option R) : Option R :=
  decimal_reader_sign_e74a ([45] : Str) x1 (fun y2 y3 => decimal_reader_digits_abbd y3 (fun y4 y5 => let j32 := let j31 := fun (z11 : Str) (z12 : Int) (z13 : Str) => let j30 := fun (z19 : Int) (z20 : Str) => chk (isAsc ([48] : Str) && decide (([48] : Str).length < 4294967281)) (chk (isAsc ([48] : Str) && decide (([48] : Str).length < 4294967281)) (bif (!(z20 == ([] : Str))) then (k0 (⟨0, 0⟩ : Dcm) false) else (bif (decide (((trimR (trimL z11 ([48] : Str)) ([48] : Str)).length : Int) > (18 : Int))) then (k0 (⟨0, 0⟩ : Dcm) false) else (let j29 := bif (y2 != 0) then (decimal_Make (IntKind.i64.wrap (0 - (atoiVal (([48] : Str) ++ (trimR (trimL z11 ([48] : Str)) ([48] : Str)))))) (IntKind.i64.wrap (z19 + (IntKind.i64.wrap (((trimL z11 ([48] : Str)).length : Int) - ((trimR (trimL z11 ([48] : Str)) ([48] : Str)).length : Int))))) (fun y25 y26 => k0 y25 y26)) else (decimal_Make (atoiVal (([48] : Str) ++ (trimR (trimL z11 ([48] : Str)) ([48] : Str)))) (IntKind.i64.wrap (z19 + (IntKind.i64.wrap (((trimL z11 ([48] : Str)).length : Int) - ((trimR (trimL z11 ([48] : Str)) ([48] : Str)).length : Int))))) (fun y27 y28 => k0 y27 y28)); chk (decide (1 + (trimR (trimL z11 ([48] : Str)) ([48] : Str)).length ≤ 9223372036854775807)) (chk (decide ((([48] : Str) ++ (trimR (trimL z11 ([48] : Str)) ([48] : Str))).length ≤ 281474976710656)) (bif atoiOk (([48] : Str) ++ (trimR (trimL z11 ([48] : Str)) ([48] : Str))) then (j29) else (j29))))))); decimal_reader_sign_e74a ([101, 69] : Str) z13 (fun y14 y15 => bif (y14 != 0) then (decimal_reader_exponent_abbd y15 (fun y16 y17 y18 => bif (!y17) then (k0 (⟨0, 0⟩ : Dcm) false) else (j30 (IntKind.i64.wrap (z12 + y16)) y18))) else (j30 z12 y15)); decimal_reader_sign_e74a ([46] : Str) y5 (fun y7 y8 => bif (y7 != 0) then (decimal_reader_digits_abbd y8 (fun y9 y10 => bif (y9 == ([] : Str)) then (k0 (⟨0, 0⟩ : Dcm) false) else (chk (decide (y4.length + y9.length ≤ 9223372036854775807)) (j31 (y4 ++ y9) (IntKind.i64.wrap (0 - (y9.length : Int))) y10)))) else (j31 y4 0 y8)); bif (decide ((x1.length : Int) > (400 : Int))) then (k0 (⟨0, 0⟩ : Dcm) false) else (bif (y4 == ([] : Str)) then (k0 (⟨0, 0⟩ : Dcm) false) else (bif (decide ((y4.length : Int) > (1 : Int))) then (chk (decide ((0 : Int) < y4.length)) (bif (((y4.getD 0 0).toNat : Int) == 48) then (k0 (⟨0, 0⟩ : Dcm) false) else (j32))) else (j32)))))
noncomputable def decimal_Parse {R : Type} : decimal_Parse_ty R := fun x1 k0 => decimal_Parse_X decimal_Make decimal_reader_sign_e74a decimal_reader_digits_abbd decimal_reader_exponent_abbd x1 k0
theorem decimal_Parse_ok {R : Type} (decimal_Make : decimal_Make_ty R) (decimal_reader_sign_e74a : decimal_reader_sign_e74a_ty R) (decimal_reader_digits_abbd : decimal_reader_digits_abbd_ty R) (decimal_reader_exponent_abbd : decimal_reader_exponent_abbd_ty R) (x1 : Str) (k : V → Heap → Option R) : funK tt (decimal_Parse_E R decimal_Make decimal_reader_sign_e74a decimal_reader_digits_abbd decimal_reader_exponent_abbd) (decimal_Parse_T R) false Tryd.f29 (codeOf Tryd.f29) [.str x1] [] k =
    decimal_Parse_X decimal_Make decimal_reader_sign_e74a decimal_reader_digits_abbd decimal_reader_exponent_abbd x1 (fun q0 q1 => k (.tuple [.agg [.int .i64 q0.mant, .int .i64 q0.exp], .bool q1]) []) := by kernel_rfl
theorem decimal_Parse_loops (R : Type) : ∀ a ∈ loopsOf (codeOf Tryd.f29), LoopOk tt (decimal_Parse_E R decimal_Make decimal_reader_sign_e74a decimal_reader_digits_abbd decimal_reader_exponent_abbd) (decimal_Parse_T R) 0 a := by
  refine loops_ok 0 (by kernel_rfl) fun i hi => ?_
  omega
theorem decimal_Parse_S_ok (R : Type) (other : Yard.Spec R) (ho : Yard.Spec.Ok Tryd.prog 29 other) : Yard.Spec.Ok Tryd.prog 29 (specBy decimal_Parse_p decimal_Parse_q (decimal_Parse_rr decimal_Parse) other) :=
  specBy_ok ho (funK_sound TT mixed (decimal_Parse_EOk R) (keep := false) rfl rfl rfl rfl 0 (decimal_Parse_loops R)) fun (x : Pat.dens decimal_Parse_p) (y : HPat.dens decimal_Parse_q) k => decimal_Parse_ok decimal_Make decimal_reader_sign_e74a decimal_reader_digits_abbd decimal_reader_exponent_abbd x.1 k

/-! ### humpyard/decimal.Right -/
abbrev decimal_Right_ty (R : Type) : Type := Dcm → (Bool → Option R) → Option R
abbrev decimal_Right_p : List Pat := [.agg [.int .i64, .int .i64]]
abbrev decimal_Right_q : List HPat := []
noncomputable def decimal_Right_rr {R : Type} (fn : decimal_Right_ty R) : Pat.dens decimal_Right_p → HPat.dens decimal_Right_q → (V → Heap → Option R) → Option R := fun x y k => fn (⟨x.1.1, x.1.2.1⟩ : Dcm) (fun q0 => k (.bool q0) [])
noncomputable def decimal_Right_E (R : Type) (decimal_within_int : decimal_within_int_ty R) : Env R := fun i => match i with
  | 64 => some (true, (specBy decimal_within_int_p decimal_within_int_q (decimal_within_int_rr decimal_within_int) specNo))
  | _ => none
theorem decimal_Right_EOk (R : Type) : EOk Tryd.prog (decimal_Right_E R decimal_within_int) := by
  intro i b sp h
  unfold decimal_Right_E at h
  split at h
  · cases h; exact ⟨(decimal_within_int_S_ok R _ (specNo_ok _)), fun h => nomatch h⟩
  · cases h

noncomputable def decimal_Right_T (R : Type) : Nat → Option (Hint × LSpec R) := fun i => match i with
  | _ => none

noncomputable def decimal_Right_X {R : Type} (decimal_within_int : decimal_within_int_ty R) (x1 : Dcm) (k0 : Bool → Option R) : Option R :=
  bif (x1.mant == 0) then (k0 (x1.exp == 0)) else (bif ((Int.tmod x1.mant 10) != 0) then (decimal_within_int (-1000000000000000) x1.mant 1000000000000000 (fun y2 => bif y2 then (decimal_within_int (-9) x1.exp 9 (fun y3 => k0 y3)) else (k0 false))) else (k0 false))
noncomputable def decimal_Right {R : Type} : decimal_Right_ty R := fun x1 k0 => decimal_Right_X decimal_within_int x1 k0
theorem decimal_Right_ok {R : Type} (decimal_within_int : decimal_within_int_ty R) (x1 : Dcm) (k : V → Heap → Option R) : funK tt (decimal_Right_E R decimal_within_int) (decimal_Right_T R) false Tryd.f30 (codeOf Tryd.f30) [.agg [.int .i64 x1.mant, .int .i64 x1.exp]] [] k =
    decimal_Right_X decimal_within_int x1 (fun q0 => k (.bool q0) []) := by kernel_rfl
theorem decimal_Right_loops (R : Type) : ∀ a ∈ loopsOf (codeOf Tryd.f30), LoopOk tt (decimal_Right_E R decimal_within_int) (decimal_Right_T R) 0 a := by
  refine loops_ok 0 (by kernel_rfl) fun i hi => ?_
  omega
theorem decimal_Right_S_ok (R : Type) (other : Yard.Spec R) (ho : Yard.Spec.Ok Tryd.prog 30 other) : Yard.Spec.Ok Tryd.prog 30 (specBy decimal_Right_p decimal_Right_q (decimal_Right_rr decimal_Right) other) :=
  specBy_ok ho (funK_sound TT mixed (decimal_Right_EOk R) (keep := false) rfl rfl rfl rfl 0 (decimal_Right_loops R)) fun (x : Pat.dens decimal_Right_p) (y : HPat.dens decimal_Right_q) k => decimal_Right_ok decimal_within_int (⟨x.1.1, x.1.2.1⟩ : Dcm) k

end Go.Proofs.YtifgegmnngfckaaDoor

/-
  Functions of the program as pure Lean functions, and the ties; printed by wip/tools/emit.py.
-/
set_option maxRecDepth 100000
set_option linter.unusedVariables false
namespace Go.Proofs.YtifgegmnngfckaaDoor
open Go Go.Yard

/-! ### humpyard/decimal.shifted -/
abbrev decimal_shifted_ty (R : Type) : Type := Dcm → Int → (Int → Bool → Option R) → Option R
abbrev decimal_shifted_p : List Pat := [.agg [.int .i64, .int .i64], .leaf (.int .i64)]
abbrev decimal_shifted_q : List HPat := []
noncomputable def decimal_shifted_rr {R : Type} (fn : decimal_shifted_ty R) : Pat.dens decimal_shifted_p → HPat.dens decimal_shifted_q → (V → Heap → Option R) → Option R := fun x y k => fn (⟨x.1.1, x.1.2.1⟩ : Dcm) x.2.1 (fun q0 q1 => k (.tuple [.int .i64 q0, .bool q1]) [])
abbrev decimal_shifted_3_0_ty (R : Type) : Type := Nat → Int → Int → Int → (Int → Option R) → (Int → Bool → Int → Option R) → Option R
noncomputable def decimal_shifted_E (R : Type) (decimal_within_int : decimal_within_int_ty R) : Env R := fun i => match i with
  | 64 => some (true, (specBy decimal_within_int_p decimal_within_int_q (decimal_within_int_rr decimal_within_int) specNo))
  | _ => none
theorem decimal_shifted_EOk (R : Type) : EOk Tryd.prog (decimal_shifted_E R decimal_within_int) := by
  intro i b sp h
  unfold decimal_shifted_E at h
  split at h
  · cases h; exact ⟨(decimal_within_int_S_ok R _ (specNo_ok _)), fun h => nomatch h⟩
  · cases h

noncomputable def decimal_shifted_3_0_B {R : Type} (decimal_within_int : decimal_within_int_ty R) (rec' : Int → Int → Int → Option R) (x3 : Int) (x4 : Int) (x5 : Int) (e0 : Int → Option R) (e1 : Int → Bool → Int → Option R) : Option R :=
  bif (decide (x5 < x4)) then (decimal_within_int (-100000000000000000) x3 100000000000000000 (fun y6 => bif (!y6) then (e1 0 false x3) else (rec' (IntKind.i64.wrap (x3 * 10)) x4 (IntKind.i64.wrap (x5 + 1))))) else (e0 x3)
noncomputable def decimal_shifted_3_0_L {R : Type} : decimal_shifted_3_0_ty R
  | 0, _, _, _, _, _ => none
  | n + 1, x0', x1', x2', e0, e1 => decimal_shifted_3_0_B decimal_within_int (fun x0' x1' x2' => decimal_shifted_3_0_L n x0' x1' x2' e0 e1) x0' x1' x2' e0 e1
noncomputable def decimal_shifted_3_0_h : Hint := { live := [6, 12, 13], own := [], rows := [], cells := [], drop := [], out := [4, 5, 6] }
abbrev decimal_shifted_3_0_D : Type := Int × Int × Int
noncomputable def decimal_shifted_3_0_enc : decimal_shifted_3_0_D → St := fun d => ⟨[.undef, .undef, .undef, .undef, .undef, .undef, .int .i64 d.1, .undef, .undef, .undef, .undef, .undef, .int .i64 d.2.1, .int .i64 d.2.2, .undef, .undef, .undef, .undef, .undef, .undef, .undef, .undef], []⟩
noncomputable def decimal_shifted_3_0_x0 {R : Type} (K : Ex → St → Option R) (q0 : Int) : Option R := K (.exit 0) ⟨[.undef, .undef, .undef, .undef, .undef, .undef, .int .i64 q0, .undef, .undef, .undef, .undef, .undef, .undef, .undef, .undef, .undef, .undef, .undef, .undef, .undef, .undef, .undef], []⟩
noncomputable def decimal_shifted_3_0_x1 {R : Type} (K : Ex → St → Option R) (q0 : Int) (q1 : Bool) (q2 : Int) : Option R := K (.ret) ⟨[.undef, .undef, .undef, .undef, .int .i64 q0, .bool q1, .int .i64 q2, .undef, .undef, .undef, .undef, .undef, .undef, .undef, .undef, .undef, .undef, .undef, .undef, .undef, .undef, .undef], []⟩
noncomputable def decimal_shifted_3_0_s {R : Type} (decimal_within_int : decimal_within_int_ty R) (K : Ex → St → Option R) (rc : decimal_shifted_3_0_D → Option R) (d : decimal_shifted_3_0_D) : Option R := decimal_shifted_3_0_B decimal_within_int (fun z0 z1 z2 => rc (z0, z1, z2)) d.1 d.2.1 d.2.2 (decimal_shifted_3_0_x0 K) (decimal_shifted_3_0_x1 K)
noncomputable def decimal_shifted_3_0_A {R : Type} (K : Ex → St → Option R) (n : Nat) (d : decimal_shifted_3_0_D) : Option R := decimal_shifted_3_0_L n d.1 d.2.1 d.2.2 (decimal_shifted_3_0_x0 K) (decimal_shifted_3_0_x1 K)
abbrev decimal_shifted_3_0_p : List Pat := [.leaf (.undef), .leaf (.undef), .leaf (.undef), .leaf (.undef), .leaf (.undef), .leaf (.undef), .leaf (.int .i64), .leaf (.undef), .leaf (.undef), .leaf (.undef), .leaf (.undef), .leaf (.undef), .leaf (.int .i64), .leaf (.int .i64), .leaf (.undef), .leaf (.undef), .leaf (.undef), .leaf (.undef), .leaf (.undef), .leaf (.undef), .leaf (.undef), .leaf (.undef)]
abbrev decimal_shifted_3_0_q : List HPat := []
noncomputable def decimal_shifted_3_0_f (x : Pat.dens decimal_shifted_3_0_p) (y : HPat.dens decimal_shifted_3_0_q) : Nat := (Int.natAbs x.2.2.2.2.2.2.1 + Int.natAbs x.2.2.2.2.2.2.2.2.2.2.2.2.1 + Int.natAbs x.2.2.2.2.2.2.2.2.2.2.2.2.2.1 + 64)
noncomputable def decimal_shifted_3_0_d (x : Pat.dens decimal_shifted_3_0_p) (y : HPat.dens decimal_shifted_3_0_q) : decimal_shifted_3_0_D := (x.2.2.2.2.2.2.1, x.2.2.2.2.2.2.2.2.2.2.2.2.1, x.2.2.2.2.2.2.2.2.2.2.2.2.2.1)
noncomputable def decimal_shifted_3_0_rr {R : Type} (L : decimal_shifted_3_0_ty R) : Pat.dens decimal_shifted_3_0_p → HPat.dens decimal_shifted_3_0_q → (Ex → St → Option R) → Option R := fun x y K => L (decimal_shifted_3_0_f x y) x.2.2.2.2.2.2.1 x.2.2.2.2.2.2.2.2.2.2.2.2.1 x.2.2.2.2.2.2.2.2.2.2.2.2.2.1 (decimal_shifted_3_0_x0 K) (decimal_shifted_3_0_x1 K)
noncomputable def decimal_shifted_T (R : Type) (decimal_shifted_3_0_L : decimal_shifted_3_0_ty R) : Nat → Option (Hint × LSpec R) := fun i => match i with
  | 3 => some (decimal_shifted_3_0_h, (loopBy decimal_shifted_3_0_p decimal_shifted_3_0_q (decimal_shifted_3_0_rr decimal_shifted_3_0_L) loopNo))
  | _ => none

theorem decimal_shifted_3_0_B_ok {R : Type} (decimal_within_int : decimal_within_int_ty R) (decimal_shifted_3_0_L : decimal_shifted_3_0_ty R) (K : Ex → St → Option R) (rc : St → Option R) (d : decimal_shifted_3_0_D) : roundOf tt (decimal_shifted_E R decimal_within_int) (decimal_shifted_T R decimal_shifted_3_0_L) 0 ((loopsOf (codeOf Tryd.f68)).getD 0 .skip) decimal_shifted_3_0_h (decimal_shifted_3_0_enc d) rc K = decimal_shifted_3_0_s decimal_within_int K (fun d => rc (decimal_shifted_3_0_enc d)) d := by kernel_rfl
theorem decimal_shifted_3_0_A_succ {R : Type} (K : Ex → St → Option R) (n : Nat) (d : decimal_shifted_3_0_D) : decimal_shifted_3_0_A K (n + 1) d = decimal_shifted_3_0_s decimal_within_int K (decimal_shifted_3_0_A K n) d := by kernel_rfl
theorem decimal_shifted_3_0_A_zero {R : Type} (K : Ex → St → Option R) (d : decimal_shifted_3_0_D) : decimal_shifted_3_0_A K 0 d = none := by kernel_rfl
theorem decimal_shifted_3_0_e_ok (x : Pat.dens decimal_shifted_3_0_p) (y : HPat.dens decimal_shifted_3_0_q) : (⟨Pat.encL decimal_shifted_3_0_p x, HPat.encL decimal_shifted_3_0_q y⟩ : St) = decimal_shifted_3_0_enc (decimal_shifted_3_0_d x y) := by kernel_rfl
theorem decimal_shifted_3_0_r_ok {R : Type} (x : Pat.dens decimal_shifted_3_0_p) (y : HPat.dens decimal_shifted_3_0_q) (K : Ex → St → Option R) : decimal_shifted_3_0_rr (decimal_shifted_3_0_L) x y K = decimal_shifted_3_0_A K (decimal_shifted_3_0_f x y) (decimal_shifted_3_0_d x y) := by kernel_rfl
theorem decimal_shifted_3_0_ok {R : Type} (other : LSpec R) (ho : LsOk tt (decimal_shifted_E R decimal_within_int) (decimal_shifted_T R decimal_shifted_3_0_L) 0 ((loopsOf (codeOf Tryd.f68)).getD 0 .skip) decimal_shifted_3_0_h other) : LsOk tt (decimal_shifted_E R decimal_within_int) (decimal_shifted_T R decimal_shifted_3_0_L) 0 ((loopsOf (codeOf Tryd.f68)).getD 0 .skip) decimal_shifted_3_0_h (loopBy decimal_shifted_3_0_p decimal_shifted_3_0_q (decimal_shifted_3_0_rr (decimal_shifted_3_0_L)) other) :=
  loopBy_tie (A := decimal_shifted_3_0_A) ho (loop_tie decimal_shifted_3_0_enc (decimal_shifted_3_0_s decimal_within_int) (decimal_shifted_3_0_A) (decimal_shifted_3_0_A_zero) (decimal_shifted_3_0_B_ok decimal_within_int decimal_shifted_3_0_L) (decimal_shifted_3_0_A_succ)) decimal_shifted_3_0_f decimal_shifted_3_0_d decimal_shifted_3_0_e_ok (decimal_shifted_3_0_r_ok)

noncomputable def decimal_shifted_X {R : Type} (decimal_shifted_3_0_L : decimal_shifted_3_0_ty R) (x1 : Dcm) (x2 : Int) (k0 : Int → Bool → Option R) : Option R :=
  decimal_shifted_3_0_L (Int.natAbs x1.mant + Int.natAbs (IntKind.i64.wrap (x1.exp - x2)) + Int.natAbs 0 + 64) x1.mant (IntKind.i64.wrap (x1.exp - x2)) 0 (fun y7 => k0 y7 true) (fun y8 y9 y10 => k0 y8 y9)
noncomputable def decimal_shifted {R : Type} : decimal_shifted_ty R := fun x1 x2 k0 => decimal_shifted_X decimal_shifted_3_0_L x1 x2 k0
theorem decimal_shifted_ok {R : Type} (decimal_within_int : decimal_within_int_ty R) (decimal_shifted_3_0_L : decimal_shifted_3_0_ty R) (x1 : Dcm) (x2 : Int) (k : V → Heap → Option R) : funK tt (decimal_shifted_E R decimal_within_int) (decimal_shifted_T R decimal_shifted_3_0_L) false Tryd.f68 (codeOf Tryd.f68) [.agg [.int .i64 x1.mant, .int .i64 x1.exp], .int .i64 x2] [] k =
    decimal_shifted_X decimal_shifted_3_0_L x1 x2 (fun q0 q1 => k (.tuple [.int .i64 q0, .bool q1]) []) := by kernel_rfl
theorem decimal_shifted_loops (R : Type) : ∀ a ∈ loopsOf (codeOf Tryd.f68), LoopOk tt (decimal_shifted_E R decimal_within_int) (decimal_shifted_T R decimal_shifted_3_0_L) 0 a := by
  refine loops_ok 1 (by kernel_rfl) fun i hi => ?_
  match i, hi with
  | 0, _ => exact loopOk_some (by kernel_rfl) (decimal_shifted_3_0_ok _ loopNo_ok)
  | n + 1, hi => omega
theorem decimal_shifted_S_ok (R : Type) (other : Yard.Spec R) (ho : Yard.Spec.Ok Tryd.prog 68 other) : Yard.Spec.Ok Tryd.prog 68 (specBy decimal_shifted_p decimal_shifted_q (decimal_shifted_rr decimal_shifted) other) :=
  specBy_ok ho (funK_sound TT mixed (decimal_shifted_EOk R) (keep := false) rfl rfl rfl rfl 0 (decimal_shifted_loops R)) fun (x : Pat.dens decimal_shifted_p) (y : HPat.dens decimal_shifted_q) k => decimal_shifted_ok decimal_within_int decimal_shifted_3_0_L (⟨x.1.1, x.1.2.1⟩ : Dcm) x.2.1 k

/-! ### humpyard/decimal.Int -/
abbrev decimal_Int_ty (R : Type) : Type := Dcm → (Int → Bool → Option R) → Option R
abbrev decimal_Int_p : List Pat := [.agg [.int .i64, .int .i64]]
abbrev decimal_Int_q : List HPat := []
noncomputable def decimal_Int_rr {R : Type} (fn : decimal_Int_ty R) : Pat.dens decimal_Int_p → HPat.dens decimal_Int_q → (V → Heap → Option R) → Option R := fun x y k => fn (⟨x.1.1, x.1.2.1⟩ : Dcm) (fun q0 q1 => k (.tuple [.int .i64 q0, .bool q1]) [])
noncomputable def decimal_Int_E (R : Type) (decimal_Right : decimal_Right_ty R) (decimal_shifted : decimal_shifted_ty R) : Env R := fun i => match i with
  | 30 => some (true, (specBy decimal_Right_p decimal_Right_q (decimal_Right_rr decimal_Right) specNo))
  | 68 => some (true, (specBy decimal_shifted_p decimal_shifted_q (decimal_shifted_rr decimal_shifted) specNo))
  | _ => none
theorem decimal_Int_EOk (R : Type) : EOk Tryd.prog (decimal_Int_E R decimal_Right decimal_shifted) := by
  intro i b sp h
  unfold decimal_Int_E at h
  split at h
  · cases h; exact ⟨(decimal_Right_S_ok R _ (specNo_ok _)), fun h => nomatch h⟩
  · cases h; exact ⟨(decimal_shifted_S_ok R _ (specNo_ok _)), fun h => nomatch h⟩
  · cases h

noncomputable def decimal_Int_T (R : Type) : Nat → Option (Hint × LSpec R) := fun i => match i with
  | _ => none

noncomputable def decimal_Int_X {R : Type} (decimal_Right : decimal_Right_ty R) (decimal_shifted : decimal_shifted_ty R) (x1 : Dcm) (k0 : Int → Bool → Option R) : Option R :=
  decimal_Right x1 (fun y2 => bif (!y2) then (k0 0 false) else (bif (decide (x1.exp < (0 : Int))) then (k0 0 false) else (decimal_shifted x1 0 (fun y4 y5 => k0 y4 y5))))
noncomputable def decimal_Int {R : Type} : decimal_Int_ty R := fun x1 k0 => decimal_Int_X decimal_Right decimal_shifted x1 k0
theorem decimal_Int_ok {R : Type} (decimal_Right : decimal_Right_ty R) (decimal_shifted : decimal_shifted_ty R) (x1 : Dcm) (k : V → Heap → Option R) : funK tt (decimal_Int_E R decimal_Right decimal_shifted) (decimal_Int_T R) false Tryd.f39 (codeOf Tryd.f39) [.agg [.int .i64 x1.mant, .int .i64 x1.exp]] [] k =
    decimal_Int_X decimal_Right decimal_shifted x1 (fun q0 q1 => k (.tuple [.int .i64 q0, .bool q1]) []) := by kernel_rfl
theorem decimal_Int_loops (R : Type) : ∀ a ∈ loopsOf (codeOf Tryd.f39), LoopOk tt (decimal_Int_E R decimal_Right decimal_shifted) (decimal_Int_T R) 0 a := by
  refine loops_ok 0 (by kernel_rfl) fun i hi => ?_
  omega
theorem decimal_Int_S_ok (R : Type) (other : Yard.Spec R) (ho : Yard.Spec.Ok Tryd.prog 39 other) : Yard.Spec.Ok Tryd.prog 39 (specBy decimal_Int_p decimal_Int_q (decimal_Int_rr decimal_Int) other) :=
  specBy_ok ho (funK_sound TT mixed (decimal_Int_EOk R) (keep := false) rfl rfl rfl rfl 0 (decimal_Int_loops R)) fun (x : Pat.dens decimal_Int_p) (y : HPat.dens decimal_Int_q) k => decimal_Int_ok decimal_Right decimal_shifted (⟨x.1.1, x.1.2.1⟩ : Dcm) k

/-! ### (*strings.Builder).WriteString -/
abbrev strings_Builder_WriteString_fb8e_ty (R : Type) : Type := Str → (Int → (List Int) → Option R) → Option R
abbrev strings_Builder_WriteString_fb8e_p : List Pat := [.leaf (.ptr 0 0), .leaf (.str)]
abbrev strings_Builder_WriteString_fb8e_q : List HPat := [.bld (.nilsl)]
noncomputable def strings_Builder_WriteString_fb8e_rr {R : Type} (fn : strings_Builder_WriteString_fb8e_ty R) : Pat.dens strings_Builder_WriteString_fb8e_p → HPat.dens strings_Builder_WriteString_fb8e_q → (V → Heap → Option R) → Option R := fun x y k => fn x.2.1 (fun q0 q1 => k (.tuple [.int .i64 q0, .niliface]) [.bld (.sl (.int .u8) q1 (.own 1)), .tok])
noncomputable def strings_Builder_WriteString_fb8e_E (R : Type) : Env R := fun i => match i with
  | 72 => some (false, (bcc_S R))
  | _ => none
theorem strings_Builder_WriteString_fb8e_EOk (R : Type) : EOk Tryd.prog (strings_Builder_WriteString_fb8e_E R) := by
  intro i b sp h
  unfold strings_Builder_WriteString_fb8e_E at h
  split at h
  · cases h; exact ⟨(bcc_is), fun _ h => nomatch h⟩
  · cases h

noncomputable def strings_Builder_WriteString_fb8e_T (R : Type) : Nat → Option (Hint × LSpec R) := fun i => match i with
  | _ => none

noncomputable def strings_Builder_WriteString_fb8e_X {R : Type} (x1 : Str) (k0 : Int → (List Int) → Option R) : Option R :=
  chk (decide ((0 + (bytesN x1).length) * 1 ≤ 140737488355328)) (k0 (x1.length : Int) (bytesN x1))
noncomputable def strings_Builder_WriteString_fb8e {R : Type} : strings_Builder_WriteString_fb8e_ty R := fun x1 k0 => strings_Builder_WriteString_fb8e_X x1 k0
theorem strings_Builder_WriteString_fb8e_ok {R : Type} (x1 : Str) (k : V → Heap → Option R) : funK tt (strings_Builder_WriteString_fb8e_E R) (strings_Builder_WriteString_fb8e_T R) false Tryd.f47 (codeOf Tryd.f47) [.ptr 0 0, .str x1] [.bld (.nilsl)] k =
    strings_Builder_WriteString_fb8e_X x1 (fun q0 q1 => k (.tuple [.int .i64 q0, .niliface]) [.bld (.sl (.int .u8) q1 (.own 1)), .tok]) := by kernel_rfl
theorem strings_Builder_WriteString_fb8e_loops (R : Type) : ∀ a ∈ loopsOf (codeOf Tryd.f47), LoopOk tt (strings_Builder_WriteString_fb8e_E R) (strings_Builder_WriteString_fb8e_T R) 1 a := by
  refine loops_ok 0 (by kernel_rfl) fun i hi => ?_
  omega
theorem strings_Builder_WriteString_fb8e_S_ok (R : Type) (other : Yard.Spec R) (ho : Yard.Spec.Ok Tryd.prog 47 other) : Yard.Spec.Ok Tryd.prog 47 (specBy strings_Builder_WriteString_fb8e_p strings_Builder_WriteString_fb8e_q (strings_Builder_WriteString_fb8e_rr strings_Builder_WriteString_fb8e) other) :=
  specBy_ok ho (funK_sound TT mixed (strings_Builder_WriteString_fb8e_EOk R) (keep := false) rfl rfl rfl rfl 1 (strings_Builder_WriteString_fb8e_loops R)) fun (x : Pat.dens strings_Builder_WriteString_fb8e_p) (y : HPat.dens strings_Builder_WriteString_fb8e_q) k => strings_Builder_WriteString_fb8e_ok x.2.1 k

/-! ### humpyard/decimal.Print -/
abbrev decimal_Print_ty (R : Type) : Type := Dcm → (Str → Option R) → Option R
abbrev decimal_Print_p : List Pat := [.agg [.int .i64, .int .i64]]
abbrev decimal_Print_q : List HPat := []
noncomputable def decimal_Print_rr {R : Type} (fn : decimal_Print_ty R) : Pat.dens decimal_Print_p → HPat.dens decimal_Print_q → (V → Heap → Option R) → Option R := fun x y k => fn (⟨x.1.1, x.1.2.1⟩ : Dcm) (fun q0 => k (.str q0) [])
noncomputable def decimal_Print_E (R : Type) (decimal_Right : decimal_Right_ty R) (strings_Builder_WriteByte_b66c : strings_Builder_WriteByte_b66c_ty R) (strings_Builder_WriteString_df1e : strings_Builder_WriteString_df1e_ty R) (strings_Builder_WriteString_fb8e : strings_Builder_WriteString_fb8e_ty R) : Env R := fun i => match i with
  | 30 => some (true, (specBy decimal_Right_p decimal_Right_q (decimal_Right_rr decimal_Right) specNo))
  | 45 => some (false, (specBy strings_Builder_WriteByte_b66c_p strings_Builder_WriteByte_b66c_q (strings_Builder_WriteByte_b66c_rr strings_Builder_WriteByte_b66c) specNo))
  | 47 => some (false, (specBy strings_Builder_WriteString_fb8e_p strings_Builder_WriteString_fb8e_q (strings_Builder_WriteString_fb8e_rr strings_Builder_WriteString_fb8e) (specBy strings_Builder_WriteString_df1e_p strings_Builder_WriteString_df1e_q (strings_Builder_WriteString_df1e_rr strings_Builder_WriteString_df1e) specNo)))
  | 49 => some (false, (bstr_S R))
  | 56 => some (true, (itoa_S R))
  | 57 => some (true, (rep_S R))
  | _ => none
theorem decimal_Print_EOk (R : Type) : EOk Tryd.prog (decimal_Print_E R decimal_Right strings_Builder_WriteByte_b66c strings_Builder_WriteString_df1e strings_Builder_WriteString_fb8e) := by
  intro i b sp h
  unfold decimal_Print_E at h
  split at h
  · cases h; exact ⟨(decimal_Right_S_ok R _ (specNo_ok _)), fun h => nomatch h⟩
  · cases h; exact ⟨(strings_Builder_WriteByte_b66c_S_ok R _ (specNo_ok _)), fun _ h => nomatch h⟩
  · cases h; exact ⟨(strings_Builder_WriteString_fb8e_S_ok R _ (strings_Builder_WriteString_df1e_S_ok R _ (specNo_ok _))), fun _ h => nomatch h⟩
  · cases h; exact ⟨(bstr_is), fun _ _ => bstr_soft⟩
  · cases h; exact ⟨(itoa_ok), fun h => nomatch h⟩
  · cases h; exact ⟨(rep_ok), fun h => nomatch h⟩
  · cases h

noncomputable def decimal_Print_T (R : Type) : Nat → Option (Hint × LSpec R) := fun i => match i with
  | _ => none

noncomputable def decimal_Print_X {R : Type} (decimal_Right : decimal_Right_ty R) (strings_Builder_WriteByte_b66c : strings_Builder_WriteByte_b66c_ty R) (strings_Builder_WriteString_df1e : strings_Builder_WriteString_df1e_ty R) (strings_Builder_WriteString_fb8e : strings_Builder_WriteString_fb8e_ty R) (x1 : Dcm) (k0 : Str → Option R) : Option R :=
  decimal_Right x1 (fun y2 => bif (!y2) then (k0 ([] : Str)) else (bif (decide (x1.mant < (0 : Int))) then (strings_Builder_WriteByte_b66c 45 (fun y3 => bif (decide (x1.exp ≥ (0 : Int))) then (chk (decide (0 ≤ x1.exp) && decide ((([48] : Str).length : Int) * x1.exp ≤ 140737488355328)) (chk (decide ((itoaS (max x1.mant (IntKind.i64.wrap (0 - x1.mant)))).length + (repS ([48] : Str) x1.exp).length ≤ 9223372036854775807)) (strings_Builder_WriteString_df1e ((itoaS (max x1.mant (IntKind.i64.wrap (0 - x1.mant)))) ++ (repS ([48] : Str) x1.exp)) y3 (fun y4 y5 => k0 (bstr y5))))) else (chk (decide (0 ≤ (max 0 (IntKind.i64.wrap ((IntKind.i64.wrap (1 - x1.exp)) - ((itoaS (max x1.mant (IntKind.i64.wrap (0 - x1.mant)))).length : Int))))) && decide ((([48] : Str).length : Int) * (max 0 (IntKind.i64.wrap ((IntKind.i64.wrap (1 - x1.exp)) - ((itoaS (max x1.mant (IntKind.i64.wrap (0 - x1.mant)))).length : Int)))) ≤ 140737488355328)) (chk (decide ((repS ([48] : Str) (max 0 (IntKind.i64.wrap ((IntKind.i64.wrap (1 - x1.exp)) - ((itoaS (max x1.mant (IntKind.i64.wrap (0 - x1.mant)))).length : Int))))).length + (itoaS (max x1.mant (IntKind.i64.wrap (0 - x1.mant)))).length ≤ 9223372036854775807)) (chk (decide ((0 : Int) ≤ (IntKind.i64.wrap ((((repS ([48] : Str) (max 0 (IntKind.i64.wrap ((IntKind.i64.wrap (1 - x1.exp)) - ((itoaS (max x1.mant (IntKind.i64.wrap (0 - x1.mant)))).length : Int))))) ++ (itoaS (max x1.mant (IntKind.i64.wrap (0 - x1.mant))))).length : Int) + x1.exp))) && decide ((IntKind.i64.wrap ((((repS ([48] : Str) (max 0 (IntKind.i64.wrap ((IntKind.i64.wrap (1 - x1.exp)) - ((itoaS (max x1.mant (IntKind.i64.wrap (0 - x1.mant)))).length : Int))))) ++ (itoaS (max x1.mant (IntKind.i64.wrap (0 - x1.mant))))).length : Int) + x1.exp)) ≤ ((repS ([48] : Str) (max 0 (IntKind.i64.wrap ((IntKind.i64.wrap (1 - x1.exp)) - ((itoaS (max x1.mant (IntKind.i64.wrap (0 - x1.mant)))).length : Int))))) ++ (itoaS (max x1.mant (IntKind.i64.wrap (0 - x1.mant))))).length)) (chk (decide ((0 : Int) ≤ (IntKind.i64.wrap ((((repS ([48] : Str) (max 0 (IntKind.i64.wrap ((IntKind.i64.wrap (1 - x1.exp)) - ((itoaS (max x1.mant (IntKind.i64.wrap (0 - x1.mant)))).length : Int))))) ++ (itoaS (max x1.mant (IntKind.i64.wrap (0 - x1.mant))))).length : Int) + x1.exp)))) (chk (decide (((((repS ([48] : Str) (max 0 (IntKind.i64.wrap ((IntKind.i64.wrap (1 - x1.exp)) - ((itoaS (max x1.mant (IntKind.i64.wrap (0 - x1.mant)))).length : Int))))) ++ (itoaS (max x1.mant (IntKind.i64.wrap (0 - x1.mant))))).drop 0).take ((IntKind.i64.wrap ((((repS ([48] : Str) (max 0 (IntKind.i64.wrap ((IntKind.i64.wrap (1 - x1.exp)) - ((itoaS (max x1.mant (IntKind.i64.wrap (0 - x1.mant)))).length : Int))))) ++ (itoaS (max x1.mant (IntKind.i64.wrap (0 - x1.mant))))).length : Int) + x1.exp)).toNat - 0)).length + 1 ≤ 9223372036854775807)) (chk (decide ((0 : Int) ≤ (((repS ([48] : Str) (max 0 (IntKind.i64.wrap ((IntKind.i64.wrap (1 - x1.exp)) - ((itoaS (max x1.mant (IntKind.i64.wrap (0 - x1.mant)))).length : Int))))) ++ (itoaS (max x1.mant (IntKind.i64.wrap (0 - x1.mant))))).length : Int)) && decide ((((repS ([48] : Str) (max 0 (IntKind.i64.wrap ((IntKind.i64.wrap (1 - x1.exp)) - ((itoaS (max x1.mant (IntKind.i64.wrap (0 - x1.mant)))).length : Int))))) ++ (itoaS (max x1.mant (IntKind.i64.wrap (0 - x1.mant))))).length : Int) ≤ ((repS ([48] : Str) (max 0 (IntKind.i64.wrap ((IntKind.i64.wrap (1 - x1.exp)) - ((itoaS (max x1.mant (IntKind.i64.wrap (0 - x1.mant)))).length : Int))))) ++ (itoaS (max x1.mant (IntKind.i64.wrap (0 - x1.mant))))).length)) (chk (decide ((0 : Int) ≤ (IntKind.i64.wrap ((((repS ([48] : Str) (max 0 (IntKind.i64.wrap ((IntKind.i64.wrap (1 - x1.exp)) - ((itoaS (max x1.mant (IntKind.i64.wrap (0 - x1.mant)))).length : Int))))) ++ (itoaS (max x1.mant (IntKind.i64.wrap (0 - x1.mant))))).length : Int) + x1.exp))) && decide ((IntKind.i64.wrap ((((repS ([48] : Str) (max 0 (IntKind.i64.wrap ((IntKind.i64.wrap (1 - x1.exp)) - ((itoaS (max x1.mant (IntKind.i64.wrap (0 - x1.mant)))).length : Int))))) ++ (itoaS (max x1.mant (IntKind.i64.wrap (0 - x1.mant))))).length : Int) + x1.exp)) ≤ (((repS ([48] : Str) (max 0 (IntKind.i64.wrap ((IntKind.i64.wrap (1 - x1.exp)) - ((itoaS (max x1.mant (IntKind.i64.wrap (0 - x1.mant)))).length : Int))))) ++ (itoaS (max x1.mant (IntKind.i64.wrap (0 - x1.mant))))).length : Int))) (chk (decide ((((((repS ([48] : Str) (max 0 (IntKind.i64.wrap ((IntKind.i64.wrap (1 - x1.exp)) - ((itoaS (max x1.mant (IntKind.i64.wrap (0 - x1.mant)))).length : Int))))) ++ (itoaS (max x1.mant (IntKind.i64.wrap (0 - x1.mant))))).drop 0).take ((IntKind.i64.wrap ((((repS ([48] : Str) (max 0 (IntKind.i64.wrap ((IntKind.i64.wrap (1 - x1.exp)) - ((itoaS (max x1.mant (IntKind.i64.wrap (0 - x1.mant)))).length : Int))))) ++ (itoaS (max x1.mant (IntKind.i64.wrap (0 - x1.mant))))).length : Int) + x1.exp)).toNat - 0)) ++ ([46] : Str)).length + ((((repS ([48] : Str) (max 0 (IntKind.i64.wrap ((IntKind.i64.wrap (1 - x1.exp)) - ((itoaS (max x1.mant (IntKind.i64.wrap (0 - x1.mant)))).length : Int))))) ++ (itoaS (max x1.mant (IntKind.i64.wrap (0 - x1.mant))))).drop (IntKind.i64.wrap ((((repS ([48] : Str) (max 0 (IntKind.i64.wrap ((IntKind.i64.wrap (1 - x1.exp)) - ((itoaS (max x1.mant (IntKind.i64.wrap (0 - x1.mant)))).length : Int))))) ++ (itoaS (max x1.mant (IntKind.i64.wrap (0 - x1.mant))))).length : Int) + x1.exp)).toNat).take ((((repS ([48] : Str) (max 0 (IntKind.i64.wrap ((IntKind.i64.wrap (1 - x1.exp)) - ((itoaS (max x1.mant (IntKind.i64.wrap (0 - x1.mant)))).length : Int))))) ++ (itoaS (max x1.mant (IntKind.i64.wrap (0 - x1.mant))))).length : Int).toNat - (IntKind.i64.wrap ((((repS ([48] : Str) (max 0 (IntKind.i64.wrap ((IntKind.i64.wrap (1 - x1.exp)) - ((itoaS (max x1.mant (IntKind.i64.wrap (0 - x1.mant)))).length : Int))))) ++ (itoaS (max x1.mant (IntKind.i64.wrap (0 - x1.mant))))).length : Int) + x1.exp)).toNat)).length ≤ 9223372036854775807)) (strings_Builder_WriteString_df1e ((((((repS ([48] : Str) (max 0 (IntKind.i64.wrap ((IntKind.i64.wrap (1 - x1.exp)) - ((itoaS (max x1.mant (IntKind.i64.wrap (0 - x1.mant)))).length : Int))))) ++ (itoaS (max x1.mant (IntKind.i64.wrap (0 - x1.mant))))).drop 0).take ((IntKind.i64.wrap ((((repS ([48] : Str) (max 0 (IntKind.i64.wrap ((IntKind.i64.wrap (1 - x1.exp)) - ((itoaS (max x1.mant (IntKind.i64.wrap (0 - x1.mant)))).length : Int))))) ++ (itoaS (max x1.mant (IntKind.i64.wrap (0 - x1.mant))))).length : Int) + x1.exp)).toNat - 0)) ++ ([46] : Str)) ++ ((((repS ([48] : Str) (max 0 (IntKind.i64.wrap ((IntKind.i64.wrap (1 - x1.exp)) - ((itoaS (max x1.mant (IntKind.i64.wrap (0 - x1.mant)))).length : Int))))) ++ (itoaS (max x1.mant (IntKind.i64.wrap (0 - x1.mant))))).drop (IntKind.i64.wrap ((((repS ([48] : Str) (max 0 (IntKind.i64.wrap ((IntKind.i64.wrap (1 - x1.exp)) - ((itoaS (max x1.mant (IntKind.i64.wrap (0 - x1.mant)))).length : Int))))) ++ (itoaS (max x1.mant (IntKind.i64.wrap (0 - x1.mant))))).length : Int) + x1.exp)).toNat).take ((((repS ([48] : Str) (max 0 (IntKind.i64.wrap ((IntKind.i64.wrap (1 - x1.exp)) - ((itoaS (max x1.mant (IntKind.i64.wrap (0 - x1.mant)))).length : Int))))) ++ (itoaS (max x1.mant (IntKind.i64.wrap (0 - x1.mant))))).length : Int).toNat - (IntKind.i64.wrap ((((repS ([48] : Str) (max 0 (IntKind.i64.wrap ((IntKind.i64.wrap (1 - x1.exp)) - ((itoaS (max x1.mant (IntKind.i64.wrap (0 - x1.mant)))).length : Int))))) ++ (itoaS (max x1.mant (IntKind.i64.wrap (0 - x1.mant))))).length : Int) + x1.exp)).toNat))) y3 (fun y6 y7 => k0 (bstr y7))))))))))))) else (bif (decide (x1.exp ≥ (0 : Int))) then (chk (decide (0 ≤ x1.exp) && decide ((([48] : Str).length : Int) * x1.exp ≤ 140737488355328)) (chk (decide ((itoaS (max x1.mant (IntKind.i64.wrap (0 - x1.mant)))).length + (repS ([48] : Str) x1.exp).length ≤ 9223372036854775807)) (strings_Builder_WriteString_fb8e ((itoaS (max x1.mant (IntKind.i64.wrap (0 - x1.mant)))) ++ (repS ([48] : Str) x1.exp)) (fun y8 y9 => k0 (bstr y9))))) else (chk (decide (0 ≤ (max 0 (IntKind.i64.wrap ((IntKind.i64.wrap (1 - x1.exp)) - ((itoaS (max x1.mant (IntKind.i64.wrap (0 - x1.mant)))).length : Int))))) && decide ((([48] : Str).length : Int) * (max 0 (IntKind.i64.wrap ((IntKind.i64.wrap (1 - x1.exp)) - ((itoaS (max x1.mant (IntKind.i64.wrap (0 - x1.mant)))).length : Int)))) ≤ 140737488355328)) (chk (decide ((repS ([48] : Str) (max 0 (IntKind.i64.wrap ((IntKind.i64.wrap (1 - x1.exp)) - ((itoaS (max x1.mant (IntKind.i64.wrap (0 - x1.mant)))).length : Int))))).length + (itoaS (max x1.mant (IntKind.i64.wrap (0 - x1.mant)))).length ≤ 9223372036854775807)) (chk (decide ((0 : Int) ≤ (IntKind.i64.wrap ((((repS ([48] : Str) (max 0 (IntKind.i64.wrap ((IntKind.i64.wrap (1 - x1.exp)) - ((itoaS (max x1.mant (IntKind.i64.wrap (0 - x1.mant)))).length : Int))))) ++ (itoaS (max x1.mant (IntKind.i64.wrap (0 - x1.mant))))).length : Int) + x1.exp))) && decide ((IntKind.i64.wrap ((((repS ([48] : Str) (max 0 (IntKind.i64.wrap ((IntKind.i64.wrap (1 - x1.exp)) - ((itoaS (max x1.mant (IntKind.i64.wrap (0 - x1.mant)))).length : Int))))) ++ (itoaS (max x1.mant (IntKind.i64.wrap (0 - x1.mant))))).length : Int) + x1.exp)) ≤ ((repS ([48] : Str) (max 0 (IntKind.i64.wrap ((IntKind.i64.wrap (1 - x1.exp)) - ((itoaS (max x1.mant (IntKind.i64.wrap (0 - x1.mant)))).length : Int))))) ++ (itoaS (max x1.mant (IntKind.i64.wrap (0 - x1.mant))))).length)) (chk (decide ((0 : Int) ≤ (IntKind.i64.wrap ((((repS ([48] : Str) (max 0 (IntKind.i64.wrap ((IntKind.i64.wrap (1 - x1.exp)) - ((itoaS (max x1.mant (IntKind.i64.wrap (0 - x1.mant)))).length : Int))))) ++ (itoaS (max x1.mant (IntKind.i64.wrap (0 - x1.mant))))).length : Int) + x1.exp)))) (chk (decide (((((repS ([48] : Str) (max 0 (IntKind.i64.wrap ((IntKind.i64.wrap (1 - x1.exp)) - ((itoaS (max x1.mant (IntKind.i64.wrap (0 - x1.mant)))).length : Int))))) ++ (itoaS (max x1.mant (IntKind.i64.wrap (0 - x1.mant))))).drop 0).take ((IntKind.i64.wrap ((((repS ([48] : Str) (max 0 (IntKind.i64.wrap ((IntKind.i64.wrap (1 - x1.exp)) - ((itoaS (max x1.mant (IntKind.i64.wrap (0 - x1.mant)))).length : Int))))) ++ (itoaS (max x1.mant (IntKind.i64.wrap (0 - x1.mant))))).length : Int) + x1.exp)).toNat - 0)).length + 1 ≤ 9223372036854775807)) (chk (decide ((0 : Int) ≤ (((repS ([48] : Str) (max 0 (IntKind.i64.wrap ((IntKind.i64.wrap (1 - x1.exp)) - ((itoaS (max x1.mant (IntKind.i64.wrap (0 - x1.mant)))).length : Int))))) ++ (itoaS (max x1.mant (IntKind.i64.wrap (0 - x1.mant))))).length : Int)) && decide ((((repS ([48] : Str) (max 0 (IntKind.i64.wrap ((IntKind.i64.wrap (1 - x1.exp)) - ((itoaS (max x1.mant (IntKind.i64.wrap (0 - x1.mant)))).length : Int))))) ++ (itoaS (max x1.mant (IntKind.i64.wrap (0 - x1.mant))))).length : Int) ≤ ((repS ([48] : Str) (max 0 (IntKind.i64.wrap ((IntKind.i64.wrap (1 - x1.exp)) - ((itoaS (max x1.mant (IntKind.i64.wrap (0 - x1.mant)))).length : Int))))) ++ (itoaS (max x1.mant (IntKind.i64.wrap (0 - x1.mant))))).length)) (chk (decide ((0 : Int) ≤ (IntKind.i64.wrap ((((repS ([48] : Str) (max 0 (IntKind.i64.wrap ((IntKind.i64.wrap (1 - x1.exp)) - ((itoaS (max x1.mant (IntKind.i64.wrap (0 - x1.mant)))).length : Int))))) ++ (itoaS (max x1.mant (IntKind.i64.wrap (0 - x1.mant))))).length : Int) + x1.exp))) && decide ((IntKind.i64.wrap ((((repS ([48] : Str) (max 0 (IntKind.i64.wrap ((IntKind.i64.wrap (1 - x1.exp)) - ((itoaS (max x1.mant (IntKind.i64.wrap (0 - x1.mant)))).length : Int))))) ++ (itoaS (max x1.mant (IntKind.i64.wrap (0 - x1.mant))))).length : Int) + x1.exp)) ≤ (((repS ([48] : Str) (max 0 (IntKind.i64.wrap ((IntKind.i64.wrap (1 - x1.exp)) - ((itoaS (max x1.mant (IntKind.i64.wrap (0 - x1.mant)))).length : Int))))) ++ (itoaS (max x1.mant (IntKind.i64.wrap (0 - x1.mant))))).length : Int))) (chk (decide ((((((repS ([48] : Str) (max 0 (IntKind.i64.wrap ((IntKind.i64.wrap (1 - x1.exp)) - ((itoaS (max x1.mant (IntKind.i64.wrap (0 - x1.mant)))).length : Int))))) ++ (itoaS (max x1.mant (IntKind.i64.wrap (0 - x1.mant))))).drop 0).take ((IntKind.i64.wrap ((((repS ([48] : Str) (max 0 (IntKind.i64.wrap ((IntKind.i64.wrap (1 - x1.exp)) - ((itoaS (max x1.mant (IntKind.i64.wrap (0 - x1.mant)))).length : Int))))) ++ (itoaS (max x1.mant (IntKind.i64.wrap (0 - x1.mant))))).length : Int) + x1.exp)).toNat - 0)) ++ ([46] : Str)).length + ((((repS ([48] : Str) (max 0 (IntKind.i64.wrap ((IntKind.i64.wrap (1 - x1.exp)) - ((itoaS (max x1.mant (IntKind.i64.wrap (0 - x1.mant)))).length : Int))))) ++ (itoaS (max x1.mant (IntKind.i64.wrap (0 - x1.mant))))).drop (IntKind.i64.wrap ((((repS ([48] : Str) (max 0 (IntKind.i64.wrap ((IntKind.i64.wrap (1 - x1.exp)) - ((itoaS (max x1.mant (IntKind.i64.wrap (0 - x1.mant)))).length : Int))))) ++ (itoaS (max x1.mant (IntKind.i64.wrap (0 - x1.mant))))).length : Int) + x1.exp)).toNat).take ((((repS ([48] : Str) (max 0 (IntKind.i64.wrap ((IntKind.i64.wrap (1 - x1.exp)) - ((itoaS (max x1.mant (IntKind.i64.wrap (0 - x1.mant)))).length : Int))))) ++ (itoaS (max x1.mant (IntKind.i64.wrap (0 - x1.mant))))).length : Int).toNat - (IntKind.i64.wrap ((((repS ([48] : Str) (max 0 (IntKind.i64.wrap ((IntKind.i64.wrap (1 - x1.exp)) - ((itoaS (max x1.mant (IntKind.i64.wrap (0 - x1.mant)))).length : Int))))) ++ (itoaS (max x1.mant (IntKind.i64.wrap (0 - x1.mant))))).length : Int) + x1.exp)).toNat)).length ≤ 9223372036854775807)) (strings_Builder_WriteString_fb8e ((((((repS ([48] : Str) (max 0 (IntKind.i64.wrap ((IntKind.i64.wrap (1 - x1.exp)) - ((itoaS (max x1.mant (IntKind.i64.wrap (0 - x1.mant)))).length : Int))))) ++ (itoaS (max x1.mant (IntKind.i64.wrap (0 - x1.mant))))).drop 0).take ((IntKind.i64.wrap ((((repS ([48] : Str) (max 0 (IntKind.i64.wrap ((IntKind.i64.wrap (1 - x1.exp)) - ((itoaS (max x1.mant (IntKind.i64.wrap (0 - x1.mant)))).length : Int))))) ++ (itoaS (max x1.mant (IntKind.i64.wrap (0 - x1.mant))))).length : Int) + x1.exp)).toNat - 0)) ++ ([46] : Str)) ++ ((((repS ([48] : Str) (max 0 (IntKind.i64.wrap ((IntKind.i64.wrap (1 - x1.exp)) - ((itoaS (max x1.mant (IntKind.i64.wrap (0 - x1.mant)))).length : Int))))) ++ (itoaS (max x1.mant (IntKind.i64.wrap (0 - x1.mant))))).drop (IntKind.i64.wrap ((((repS ([48] : Str) (max 0 (IntKind.i64.wrap ((IntKind.i64.wrap (1 - x1.exp)) - ((itoaS (max x1.mant (IntKind.i64.wrap (0 - x1.mant)))).length : Int))))) ++ (itoaS (max x1.mant (IntKind.i64.wrap (0 - x1.mant))))).length : Int) + x1.exp)).toNat).take ((((repS ([48] : Str) (max 0 (IntKind.i64.wrap ((IntKind.i64.wrap (1 - x1.exp)) - ((itoaS (max x1.mant (IntKind.i64.wrap (0 - x1.mant)))).length : Int))))) ++ (itoaS (max x1.mant (IntKind.i64.wrap (0 - x1.mant))))).length : Int).toNat - (IntKind.i64.wrap ((((repS ([48] : Str) (max 0 (IntKind.i64.wrap ((IntKind.i64.wrap (1 - x1.exp)) - ((itoaS (max x1.mant (IntKind.i64.wrap (0 - x1.mant)))).length : Int))))) ++ (itoaS (max x1.mant (IntKind.i64.wrap (0 - x1.mant))))).length : Int) + x1.exp)).toNat))) (fun y10 y11 => k0 (bstr y11))))))))))))))
noncomputable def decimal_Print {R : Type} : decimal_Print_ty R := fun x1 k0 => decimal_Print_X decimal_Right strings_Builder_WriteByte_b66c strings_Builder_WriteString_df1e strings_Builder_WriteString_fb8e x1 k0
theorem decimal_Print_ok {R : Type} (decimal_Right : decimal_Right_ty R) (strings_Builder_WriteByte_b66c : strings_Builder_WriteByte_b66c_ty R) (strings_Builder_WriteString_df1e : strings_Builder_WriteString_df1e_ty R) (strings_Builder_WriteString_fb8e : strings_Builder_WriteString_fb8e_ty R) (x1 : Dcm) (k : V → Heap → Option R) : funK tt (decimal_Print_E R decimal_Right strings_Builder_WriteByte_b66c strings_Builder_WriteString_df1e strings_Builder_WriteString_fb8e) (decimal_Print_T R) false Tryd.f28 (codeOf Tryd.f28) [.agg [.int .i64 x1.mant, .int .i64 x1.exp]] [] k =
    decimal_Print_X decimal_Right strings_Builder_WriteByte_b66c strings_Builder_WriteString_df1e strings_Builder_WriteString_fb8e x1 (fun q0 => k (.str q0) []) := by kernel_rfl
theorem decimal_Print_loops (R : Type) : ∀ a ∈ loopsOf (codeOf Tryd.f28), LoopOk tt (decimal_Print_E R decimal_Right strings_Builder_WriteByte_b66c strings_Builder_WriteString_df1e strings_Builder_WriteString_fb8e) (decimal_Print_T R) 0 a := by
  refine loops_ok 0 (by kernel_rfl) fun i hi => ?_
  omega
theorem decimal_Print_S_ok (R : Type) (other : Yard.Spec R) (ho : Yard.Spec.Ok Tryd.prog 28 other) : Yard.Spec.Ok Tryd.prog 28 (specBy decimal_Print_p decimal_Print_q (decimal_Print_rr decimal_Print) other) :=
  specBy_ok ho (funK_sound TT mixed (decimal_Print_EOk R) (keep := false) rfl rfl rfl rfl 0 (decimal_Print_loops R)) fun (x : Pat.dens decimal_Print_p) (y : HPat.dens decimal_Print_q) k => decimal_Print_ok decimal_Right strings_Builder_WriteByte_b66c strings_Builder_WriteString_df1e strings_Builder_WriteString_fb8e (⟨x.1.1, x.1.2.1⟩ : Dcm) k

/-! ### humpyard/humpyardlaw01.awake -/
abbrev law01_awake_ty (R : Type) : Type := (Bool → Option R) → Option R
abbrev law01_awake_p : List Pat := []
abbrev law01_awake_q : List HPat := []
noncomputable def law01_awake_rr {R : Type} (fn : law01_awake_ty R) : Pat.dens law01_awake_p → HPat.dens law01_awake_q → (V → Heap → Option R) → Option R := fun x y k => fn (fun q0 => k (.bool q0) [])
noncomputable def law01_awake_E (R : Type) (decimal_Print : decimal_Print_ty R) (decimal_Parse : decimal_Parse_ty R) (decimal_Right : decimal_Right_ty R) (decimal_Make : decimal_Make_ty R) (decimal_Int : decimal_Int_ty R) : Env R := fun i => match i with
  | 28 => some (true, (specBy decimal_Print_p decimal_Print_q (decimal_Print_rr decimal_Print) specNo))
  | 29 => some (true, (specBy decimal_Parse_p decimal_Parse_q (decimal_Parse_rr decimal_Parse) specNo))
  | 30 => some (true, (specBy decimal_Right_p decimal_Right_q (decimal_Right_rr decimal_Right) specNo))
  | 32 => some (true, (specBy decimal_Make_p decimal_Make_q (decimal_Make_rr decimal_Make) specNo))
  | 39 => some (true, (specBy decimal_Int_p decimal_Int_q (decimal_Int_rr decimal_Int) specNo))
  | _ => none
theorem law01_awake_EOk (R : Type) : EOk Tryd.prog (law01_awake_E R decimal_Print decimal_Parse decimal_Right decimal_Make decimal_Int) := by
  intro i b sp h
  unfold law01_awake_E at h
  split at h
  · cases h; exact ⟨(decimal_Print_S_ok R _ (specNo_ok _)), fun h => nomatch h⟩
  · cases h; exact ⟨(decimal_Parse_S_ok R _ (specNo_ok _)), fun h => nomatch h⟩
  · cases h; exact ⟨(decimal_Right_S_ok R _ (specNo_ok _)), fun h => nomatch h⟩
  · cases h; exact ⟨(decimal_Make_S_ok R _ (specNo_ok _)), fun h => nomatch h⟩
  · cases h; exact ⟨(decimal_Int_S_ok R _ (specNo_ok _)), fun h => nomatch h⟩
  · cases h

noncomputable def law01_awake_T (R : Type) : Nat → Option (Hint × LSpec R) := fun i => match i with
  | _ => none

noncomputable def law01_awake_X {R : Type} (decimal_Print : decimal_Print_ty R) (decimal_Parse : decimal_Parse_ty R) (decimal_Right : decimal_Right_ty R) (decimal_Make : decimal_Make_ty R) (decimal_Int : decimal_Int_ty R) (k0 : Bool → Option R) : Option R :=
  decimal_Parse ([45, 49, 46, 53, 48, 101, 49] : Str) (fun y1 y2 => decimal_Make 1200 (-1) (fun y3 y4 => decimal_Int y1 (fun y5 y6 => bif y2 then (bif (y1.mant == (-15) && (y1.exp == 0 && true)) then (bif y4 then (bif (y3.mant == 12 && (y3.exp == 1 && true)) then (decimal_Print (⟨25, (-3)⟩ : Dcm) (fun y7 => bif (y7 == ([48, 46, 48, 50, 53] : Str)) then (bif (y5 == (-15)) then (bif y6 then (decimal_Right y1 (fun y8 => k0 y8)) else (k0 false)) else (k0 false)) else (k0 false))) else (k0 false)) else (k0 false)) else (k0 false)) else (k0 false))))
noncomputable def law01_awake {R : Type} : law01_awake_ty R := fun  k0 => law01_awake_X decimal_Print decimal_Parse decimal_Right decimal_Make decimal_Int  k0
theorem law01_awake_ok {R : Type} (decimal_Print : decimal_Print_ty R) (decimal_Parse : decimal_Parse_ty R) (decimal_Right : decimal_Right_ty R) (decimal_Make : decimal_Make_ty R) (decimal_Int : decimal_Int_ty R) (k : V → Heap → Option R) : funK tt (law01_awake_E R decimal_Print decimal_Parse decimal_Right decimal_Make decimal_Int) (law01_awake_T R) false Tryd.f26 (codeOf Tryd.f26) [] [] k =
    law01_awake_X decimal_Print decimal_Parse decimal_Right decimal_Make decimal_Int  (fun q0 => k (.bool q0) []) := by kernel_rfl
theorem law01_awake_loops (R : Type) : ∀ a ∈ loopsOf (codeOf Tryd.f26), LoopOk tt (law01_awake_E R decimal_Print decimal_Parse decimal_Right decimal_Make decimal_Int) (law01_awake_T R) 0 a := by
  refine loops_ok 0 (by kernel_rfl) fun i hi => ?_
  omega
theorem law01_awake_S_ok (R : Type) (other : Yard.Spec R) (ho : Yard.Spec.Ok Tryd.prog 26 other) : Yard.Spec.Ok Tryd.prog 26 (specBy law01_awake_p law01_awake_q (law01_awake_rr law01_awake) other) :=
  specBy_ok ho (funK_sound TT mixed (law01_awake_EOk R) (keep := false) rfl rfl rfl rfl 0 (law01_awake_loops R)) fun (x : Pat.dens law01_awake_p) (y : HPat.dens law01_awake_q) k => law01_awake_ok decimal_Print decimal_Parse decimal_Right decimal_Make decimal_Int  k

end Go.Proofs.YtifgegmnngfckaaDoor

/-
  The first calls of the laws of quote and decimal, run. Own work.
-/
set_option maxRecDepth 100000
namespace Go.Proofs.YtifgegmnngfckaaDoor
open Go Go.Yard
theorem awake02 {R : Type} (k : Bool → Option R) : law02_awake k = k true := by kernel_rfl
theorem awake01 {R : Type} (k : Bool → Option R) : law01_awake k = k true := by kernel_rfl
end Go.Proofs.YtifgegmnngfckaaDoor

/-
  UTF-8 on lists: encodings, what decodes, what is whole. Own work.
-/
set_option maxRecDepth 100000
namespace Go.Yard
open Go.Lib

/-- A rune that may be. -/
def vr (c : Nat) : Prop := c < 55296 ∨ (57344 ≤ c ∧ c ≤ 1114111)
instance (c : Nat) : Decidable (vr c) := inferInstanceAs (Decidable (_ ∨ _))

def enc (c : Nat) : Str := encodeRune (c : Int)

theorem enc1 {c : Nat} (h : c < 128) : enc c = [UInt8.ofNat c] := by
  unfold enc encodeRune encodeRuneZ
  rw [if_pos (by omega)]
  rfl
theorem enc2 {c : Nat} (h0 : 128 ≤ c) (h : c < 2048) : enc c = [UInt8.ofNat (192 + c / 64), UInt8.ofNat (128 + c % 64)] := by
  unfold enc encodeRune encodeRuneZ
  rw [if_neg (by omega), if_pos (by omega)]
  have e1 : (192 + (c : Int) / 64).toNat = 192 + c / 64 := by omega
  have e2 : (128 + (c : Int) % 64).toNat = 128 + c % 64 := by omega
  simp only [List.map_cons, List.map_nil, e1, e2]
theorem enc3 {c : Nat} (h0 : 2048 ≤ c) (h : c < 65536) (hv : vr c) : enc c = [UInt8.ofNat (224 + c / 4096), UInt8.ofNat (128 + c / 64 % 64), UInt8.ofNat (128 + c % 64)] := by
  unfold vr at hv
  unfold enc encodeRune encodeRuneZ
  rw [if_neg (by omega), if_neg (by omega), if_pos (by omega)]
  have e1 : (224 + (c : Int) / 4096).toNat = 224 + c / 4096 := by omega
  have e2 : (128 + (c : Int) / 64 % 64).toNat = 128 + c / 64 % 64 := by omega
  have e3 : (128 + (c : Int) % 64).toNat = 128 + c % 64 := by omega
  simp only [List.map_cons, List.map_nil, e1, e2, e3]
theorem enc4 {c : Nat} (h0 : 65536 ≤ c) (h : c < 1114112) : enc c = [UInt8.ofNat (240 + c / 262144), UInt8.ofNat (128 + c / 4096 % 64), UInt8.ofNat (128 + c / 64 % 64), UInt8.ofNat (128 + c % 64)] := by
  unfold enc encodeRune encodeRuneZ
  rw [if_neg (by omega), if_neg (by omega), if_neg (by omega), if_pos (by omega)]
  have e1 : (240 + (c : Int) / 262144).toNat = 240 + c / 262144 := by omega
  have e2 : (128 + (c : Int) / 4096 % 64).toNat = 128 + c / 4096 % 64 := by omega
  have e3 : (128 + (c : Int) / 64 % 64).toNat = 128 + c / 64 % 64 := by omega
  have e4 : (128 + (c : Int) % 64).toNat = 128 + c % 64 := by omega
  simp only [List.map_cons, List.map_nil, e1, e2, e3, e4]

theorem u8_nat (n : Nat) (h : n < 256) : (UInt8.ofNat n).toNat = n := by
  simp only [UInt8.toNat_ofNat']
  omega

theorem vr_lt {c : Nat} (h : vr c) : c < 1114112 := by unfold vr at h; omega
theorem enc_cases {c : Nat} (hv : vr c) : (c < 128 ∧ enc c = [UInt8.ofNat c]) ∨ (128 ≤ c ∧ c < 2048 ∧ enc c = [UInt8.ofNat (192 + c / 64), UInt8.ofNat (128 + c % 64)]) ∨
    (2048 ≤ c ∧ c < 65536 ∧ enc c = [UInt8.ofNat (224 + c / 4096), UInt8.ofNat (128 + c / 64 % 64), UInt8.ofNat (128 + c % 64)]) ∨
    (65536 ≤ c ∧ enc c = [UInt8.ofNat (240 + c / 262144), UInt8.ofNat (128 + c / 4096 % 64), UInt8.ofNat (128 + c / 64 % 64), UInt8.ofNat (128 + c % 64)]) := by
  have := vr_lt hv
  by_cases h1 : c < 128
  · exact .inl ⟨h1, enc1 h1⟩
  by_cases h2 : c < 2048
  · exact .inr (.inl ⟨by omega, h2, enc2 (by omega) h2⟩)
  by_cases h3 : c < 65536
  · exact .inr (.inr (.inl ⟨by omega, h3, enc3 (by omega) h3 hv⟩))
  · exact .inr (.inr (.inr ⟨by omega, enc4 (by omega) this⟩))

theorem enc_len {c : Nat} (hv : vr c) : 1 ≤ (enc c).length ∧ (enc c).length ≤ 4 := by
  rcases enc_cases hv with ⟨_, e⟩ | ⟨_, _, e⟩ | ⟨_, _, e⟩ | ⟨_, e⟩ <;> rw [e] <;> simp

/-- AN ENCODING DECODES, whatever stands behind. -/
theorem dec_enc {c : Nat} (hv : vr c) (t : Str) : decodeL (enc c ++ t) = (c, (enc c).length) := by
  have hlt := vr_lt hv
  unfold vr at hv
  rw [decodeL_N]
  rcases enc_cases hv with ⟨h1, e⟩ | ⟨h0, h1, e⟩ | ⟨h0, h1, e⟩ | ⟨h0, e⟩ <;> rw [e]
  · simp only [List.cons_append, List.getD_cons_zero, u8_nat c (by omega)]
    exact decodeN_ascii _ _ _ _ _ h1
  · simp only [List.cons_append, List.nil_append, List.getD_cons_zero, List.getD_cons_succ, u8_nat (192 + c / 64) (by omega), u8_nat (128 + c % 64) (by omega), List.length_cons]
    unfold decodeN
    rw [if_neg (by omega), if_pos ⟨by omega, by omega, by omega⟩, if_pos (by omega)]
    refine Prod.ext ?_ rfl
    show (192 + c / 64) % 32 * 64 + (128 + c % 64) % 64 = c
    omega
  · simp only [List.cons_append, List.nil_append, List.getD_cons_zero, List.getD_cons_succ, u8_nat (224 + c / 4096) (by omega), u8_nat (128 + c / 64 % 64) (by omega), u8_nat (128 + c % 64) (by omega), List.length_cons]
    unfold decodeN
    have k : (224 + c / 4096) % 16 * 4096 + (128 + c / 64 % 64) % 64 * 64 + (128 + c % 64) % 64 = c := by omega
    rw [if_neg (by omega), if_neg (by omega), if_pos ⟨by omega, ⟨by omega, by omega⟩, by omega, by omega⟩, k, if_pos (by omega)]
    simp only [List.length_nil]
  · simp only [List.cons_append, List.nil_append, List.getD_cons_zero, List.getD_cons_succ, u8_nat (240 + c / 262144) (by omega), u8_nat (128 + c / 4096 % 64) (by omega), u8_nat (128 + c / 64 % 64) (by omega), u8_nat (128 + c % 64) (by omega), List.length_cons]
    unfold decodeN
    have k : (240 + c / 262144) % 8 * 262144 + (128 + c / 4096 % 64) % 64 * 4096 + (128 + c / 64 % 64) % 64 * 64 + (128 + c % 64) % 64 = c := by omega
    rw [if_neg (by omega), if_neg (by omega), if_neg (by omega), if_pos ⟨by omega, ⟨by omega, by omega⟩, ⟨by omega, by omega⟩, by omega, by omega⟩, k, if_pos (by omega)]
    simp only [List.length_nil]

/-- A step of the decoder that finds a rune. -/
def good (l : Str) : Prop := ¬ ((decodeL l).1 = 65533 ∧ (decodeL l).2 = 1)
instance (l : Str) : Decidable (good l) := inferInstanceAs (Decidable (¬ _))

theorem good_enc {c : Nat} (hv : vr c) (t : Str) : good (enc c ++ t) := by
  unfold good
  rw [dec_enc hv t]
  rintro ⟨h1, h2⟩
  simp only at h1 h2
  rw [h1] at h2
  rw [enc3 (by omega) (by omega) (by unfold vr; omega)] at h2
  cases h2

theorem decodeN_vr (n b0 b1 b2 b3 : Nat) (h0 : b0 < 256) : vr (decodeN n b0 b1 b2 b3).1 := by
  unfold vr decodeN
  repeat' split
  all_goals simp only
  all_goals omega

theorem dec_vr (l : Str) : vr (decodeL l).1 := by
  rw [decodeL_N]
  exact decodeN_vr _ _ _ _ _ (UInt8.toNat_lt _)

/-- WHAT DECODES IS AN ENCODING. -/
theorem dec_good {l : Str} (hne : l ≠ []) (h : good l) : l = enc (decodeL l).1 ++ l.drop (decodeL l).2 ∧ (enc (decodeL l).1).length = (decodeL l).2 := by
  have h1 := encode_decode l hne h
  have h2 := decodeL_le l hne
  refine ⟨?_, ?_⟩
  · unfold enc
    rw [h1, List.take_append_drop]
  · unfold enc
    rw [h1, List.length_take]
    omega

theorem validS_nil : validS [] = true := rfl
theorem validS_step {l : Str} (hne : l ≠ []) : validS l = if good l then validS (l.drop (decodeL l).2) else false := by
  unfold validS
  rw [validD_step l hne]
  by_cases h : good l
  · rw [if_pos h, if_neg (show ¬ ((decodeL l).1 = 65533 ∧ (decodeL l).2 = 1) from h)]
  · rw [if_neg h, if_pos (Decidable.not_not.1 h)]

theorem enc_ne {c : Nat} (hv : vr c) (t : Str) : enc c ++ t ≠ [] := by
  have := enc_len hv
  intro e
  have := congrArg List.length e
  rw [List.length_append, List.length_nil] at this
  omega

theorem validS_enc {c : Nat} (hv : vr c) (t : Str) : validS (enc c ++ t) = validS t := by
  rw [validS_step (enc_ne hv t), if_pos (good_enc hv t), dec_enc hv t]
  simp

/-- The text of runes. -/
def encL (rs : List Nat) : Str := rs.flatMap enc

theorem validS_encL : ∀ (rs : List Nat), (∀ c ∈ rs, vr c) → ∀ t, validS (encL rs ++ t) = validS t
  | [], _, t => rfl
  | c :: rs, h, t => by
    have : encL (c :: rs) ++ t = enc c ++ (encL rs ++ t) := by simp [encL]
    rw [this, validS_enc (h c (by simp)), validS_encL rs (fun x hx => h x (by simp [hx]))]

/-- WHAT IS WHOLE IS A TEXT OF RUNES. -/
theorem whole_runes : ∀ (n : Nat) (l : Str), l.length ≤ n → validS l = true → ∃ rs : List Nat, (∀ c ∈ rs, vr c) ∧ l = encL rs
  | 0, l, hl, _ => ⟨[], by simp, List.eq_nil_of_length_eq_zero (by omega)⟩
  | n + 1, l, hl, h => by
    by_cases hne : l = []
    · exact ⟨[], by simp, hne⟩
    rw [validS_step hne] at h
    split at h
    · rename_i hg
      obtain ⟨h1, h2⟩ := dec_good hne hg
      have h3 := enc_len (dec_vr l)
      obtain ⟨rs, hr, e⟩ := whole_runes n (l.drop (decodeL l).2) (by rw [List.length_drop]; omega) h
      refine ⟨(decodeL l).1 :: rs, ?_, ?_⟩
      · intro c hc
        rcases List.mem_cons.1 hc with rfl | hc
        · exact dec_vr l
        · exact hr c hc
      · exact h1.trans ((congrArg (enc (decodeL l).1 ++ ·) e).trans (by simp [encL]))
    · cases h

theorem whole_iff {l : Str} : validS l = true ↔ ∃ rs : List Nat, (∀ c ∈ rs, vr c) ∧ l = encL rs := by
  refine ⟨whole_runes l.length l (Nat.le_refl _), ?_⟩
  rintro ⟨rs, hr, rfl⟩
  have := validS_encL rs hr []
  rw [List.append_nil] at this
  rw [this]; rfl

theorem validS_app {w : Str} (hw : validS w = true) (s : Str) : validS (w ++ s) = validS s := by
  obtain ⟨rs, hr, rfl⟩ := whole_iff.1 hw
  exact validS_encL rs hr s

theorem getD_app_lt {s t : Str} {i : Nat} (h : i < s.length) : (s ++ t).getD i 0 = s.getD i 0 := by
  simp [List.getD, List.getElem?_append_left h]
theorem getD_app_at {s t : Str} {x : UInt8} : (s ++ x :: t).getD s.length 0 = x := by
  simp [List.getD]

/-- A byte that continues nothing ends what stands ahead of it. -/
theorem dec_stop {s : Str} (hne : s ≠ []) {x : UInt8} (hx : x.toNat / 64 ≠ 2) (t : Str) : decodeL (s ++ x :: t) = decodeL s := by
  have hl : 0 < s.length := List.length_pos_iff.2 hne
  rw [decodeL_N, decodeL_N, getD_app_lt hl]
  have hn : (s ++ x :: t).length = s.length + 1 + t.length := by simp; omega
  rw [hn]
  by_cases h4 : 4 ≤ s.length
  · rw [getD_app_lt (by omega), getD_app_lt (by omega), getD_app_lt (by omega)]
    unfold decodeN
    simp only [show (1 < s.length + 1 + t.length) = True from eq_true (by omega), show (2 < s.length + 1 + t.length) = True from eq_true (by omega), show (3 < s.length + 1 + t.length) = True from eq_true (by omega),
      show (1 < s.length) = True from eq_true (by omega), show (2 < s.length) = True from eq_true (by omega), show (3 < s.length) = True from eq_true (by omega)]
  · have hcase : s.length = 1 ∨ s.length = 2 ∨ s.length = 3 := by omega
    have hat := getD_app_at (s := s) (t := t) (x := x)
    rcases hcase with h | h | h
    · rw [h] at hat ⊢
      rw [hat]
      generalize (s.getD 0 0).toNat = a0, (s.getD 1 0).toNat = a1, (s.getD 2 0).toNat = a2, (s.getD 3 0).toNat = a3, ((s ++ x :: t).getD 2 0).toNat = c2, ((s ++ x :: t).getD 3 0).toNat = c3
      unfold decodeN
      rw [if_neg (c := a0 / 32 = 6 ∧ (1 < 1 + 1 + t.length ∧ x.toNat / 64 = 2)) (by omega), if_neg (c := a0 / 16 = 14 ∧ (1 < 1 + 1 + t.length ∧ x.toNat / 64 = 2) ∧ (2 < 1 + 1 + t.length ∧ c2 / 64 = 2)) (by omega),
        if_neg (c := a0 / 8 = 30 ∧ (1 < 1 + 1 + t.length ∧ x.toNat / 64 = 2) ∧ (2 < 1 + 1 + t.length ∧ c2 / 64 = 2) ∧ (3 < 1 + 1 + t.length ∧ c3 / 64 = 2)) (by omega),
        if_neg (c := a0 / 32 = 6 ∧ (1 < 1 ∧ a1 / 64 = 2)) (by omega), if_neg (c := a0 / 16 = 14 ∧ (1 < 1 ∧ a1 / 64 = 2) ∧ (2 < 1 ∧ a2 / 64 = 2)) (by omega),
        if_neg (c := a0 / 8 = 30 ∧ (1 < 1 ∧ a1 / 64 = 2) ∧ (2 < 1 ∧ a2 / 64 = 2) ∧ (3 < 1 ∧ a3 / 64 = 2)) (by omega)]
    · rw [h] at hat ⊢
      rw [hat, getD_app_lt (by omega)]
      generalize (s.getD 0 0).toNat = a0, (s.getD 1 0).toNat = a1, (s.getD 2 0).toNat = a2, (s.getD 3 0).toNat = a3, ((s ++ x :: t).getD 3 0).toNat = c3
      unfold decodeN
      rw [if_neg (c := a0 / 16 = 14 ∧ (1 < 2 + 1 + t.length ∧ a1 / 64 = 2) ∧ (2 < 2 + 1 + t.length ∧ x.toNat / 64 = 2)) (by omega),
        if_neg (c := a0 / 8 = 30 ∧ (1 < 2 + 1 + t.length ∧ a1 / 64 = 2) ∧ (2 < 2 + 1 + t.length ∧ x.toNat / 64 = 2) ∧ (3 < 2 + 1 + t.length ∧ c3 / 64 = 2)) (by omega),
        if_neg (c := a0 / 16 = 14 ∧ (1 < 2 ∧ a1 / 64 = 2) ∧ (2 < 2 ∧ a2 / 64 = 2)) (by omega),
        if_neg (c := a0 / 8 = 30 ∧ (1 < 2 ∧ a1 / 64 = 2) ∧ (2 < 2 ∧ a2 / 64 = 2) ∧ (3 < 2 ∧ a3 / 64 = 2)) (by omega)]
      simp only [show (1 < 2 + 1 + t.length) = True from eq_true (by omega), show (1 < 2) = True from eq_true (by omega)]
    · rw [h] at hat ⊢
      rw [hat, getD_app_lt (by omega), getD_app_lt (by omega)]
      generalize (s.getD 0 0).toNat = a0, (s.getD 1 0).toNat = a1, (s.getD 2 0).toNat = a2, (s.getD 3 0).toNat = a3
      unfold decodeN
      rw [if_neg (c := a0 / 8 = 30 ∧ (1 < 3 + 1 + t.length ∧ a1 / 64 = 2) ∧ (2 < 3 + 1 + t.length ∧ a2 / 64 = 2) ∧ (3 < 3 + 1 + t.length ∧ x.toNat / 64 = 2)) (by omega),
        if_neg (c := a0 / 8 = 30 ∧ (1 < 3 ∧ a1 / 64 = 2) ∧ (2 < 3 ∧ a2 / 64 = 2) ∧ (3 < 3 ∧ a3 / 64 = 2)) (by omega)]
      simp only [show (1 < 3 + 1 + t.length) = True from eq_true (by omega), show (2 < 3 + 1 + t.length) = True from eq_true (by omega), show (1 < 3) = True from eq_true (by omega), show (2 < 3) = True from eq_true (by omega)]

theorem validS_mid {x : UInt8} (hx : x.toNat < 128) (t : Str) : ∀ (n : Nat) (s : Str), s.length ≤ n → validS (s ++ x :: t) = (validS s && validS t)
  | n, [], _ => by
    unfold validS
    rw [List.nil_append, validD_cons x t hx]
    simp [validD_nil]
  | 0, b :: s, hl => by simp at hl
  | n + 1, b :: s, hl => by
    have hne : b :: s ≠ [] := by simp
    rw [validS_step (l := b :: s ++ x :: t) (by simp), validS_step hne]
    have hd := dec_stop hne (x := x) (by omega) t
    have hg : good (b :: s ++ x :: t) ↔ good (b :: s) := by unfold good; rw [hd]
    by_cases h : good (b :: s)
    · rw [if_pos (hg.2 h), if_pos h, hd]
      have h2 := decodeL_le _ hne
      have h3 := decodeL_width (b :: s)
      rw [List.drop_append_of_le_length h2]
      exact validS_mid hx t n _ (by rw [List.length_drop]; simp only [List.length_cons] at hl ⊢; omega)
    · rw [if_neg (fun g => h (hg.1 g)), if_neg h]
      rfl
end Go.Yard

/-
  Plain lemmas for printed functions. Own work.
-/
namespace Go.Yard

theorem chk_pos {R : Type} {b : Bool} {k : Option R} (h : b = true) : chk b k = k := by subst h; rfl

theorem wrap_id {n : Int} (h1 : -9223372036854775808 ≤ n) (h2 : n ≤ 9223372036854775807) : IntKind.i64.wrap n = n := by
  simp only [IntKind.wrap, IntKind.bits, IntKind.signed, IntKind.min, IntKind.max]
  simp
  omega

theorem Json.eta (x : Json) : (⟨x.kind, ⟨x.num.mant, x.num.exp⟩, x.text, x.names, x.items⟩ : Json) = x := by cases x; rfl
theorem Raw.eta (x : Raw) : (⟨x.kind, x.mant, x.exp, x.text, x.items⟩ : Raw) = x := by cases x; rfl

theorem getD_at {α : Type} {l : List α} {i : Nat} (h : i < l.length) (d : α) : l.getD i d = l[i] := by simp [List.getD, h]
end Go.Yard

/-
  Text: of raw numbers a text of runes. Own work.
-/
set_option linter.unusedVariables false
set_option maxRecDepth 100000
namespace Go.Proofs.YtifgegmnngfckaaDoor
open Go Go.Yard

def I64 (n : Int) : Prop := -9223372036854775808 ≤ n ∧ n ≤ 9223372036854775807
theorem i64_has {n : Int} : IntKind.i64.has n ↔ I64 n := by
  unfold IntKind.has I64
  simp only [IntKind.min, IntKind.max, IntKind.bits, IntKind.signed]
  simp

theorem pick_raw {R : Type} (c n : Int) (hc : I64 c) (h0 : 0 < n) (hn : n ≤ 9223372036854775807) : ∃ r : Int, 0 ≤ r ∧ r < n ∧ ∀ k : Int → Option R,
    (bif (decide (c < (0 : Int))) then (chk (!decide (n = 0)) (k (Int.tmod (IntKind.i64.wrap (0 - (IntKind.i64.wrap (c + 1)))) n))) else (chk (!decide (n = 0)) (k (Int.tmod c n)))) = k r := by
  obtain ⟨h1, h2⟩ := hc
  have hz : (!decide (n = 0)) = true := by simp; omega
  by_cases h : c < 0
  · refine ⟨Int.tmod (0 - (c + 1)) n, Int.tmod_nonneg _ (by omega), Int.tmod_lt_of_pos _ h0, fun k => ?_⟩
    have hd : decide (c < (0 : Int)) = true := by simpa using h
    rw [hd, cond_true, chk_pos hz, wrap_id (n := c + 1) (by omega) (by omega), wrap_id (by omega) (by omega)]
  · refine ⟨Int.tmod c n, Int.tmod_nonneg _ (by omega), Int.tmod_lt_of_pos _ h0, fun k => ?_⟩
    have hd : decide (c < (0 : Int)) = false := by simpa using h
    rw [hd, cond_false, chk_pos hz]

theorem pick02 {R : Type} (c n : Int) (hc : I64 c) (h0 : 0 < n) (hn : n ≤ 9223372036854775807) : ∃ r : Int, 0 ≤ r ∧ r < n ∧ ∀ k : Int → Option R, law02_pick c n k = k r := pick_raw c n hc h0 hn

theorem wrap32_id {n : Int} (h1 : 0 ≤ n) (h2 : n < 1114112) : IntKind.i32.wrap n = n := by
  simp only [IntKind.wrap, IntKind.bits, IntKind.signed, IntKind.min, IntKind.max]
  simp
  omega

theorem encode_enc {c : Nat} (hv : vr c) : (Utf8.encode (c : Int)).data.toList = enc c := by
  have hlt := vr_lt hv
  have hval : Utf8.valid (c : Int) = true := by
    unfold vr at hv
    simp only [Utf8.valid, Bool.or_eq_true, Bool.and_eq_true, decide_eq_true_eq]
    omega
  unfold Utf8.encode
  simp only [hval, if_true, Int.toNat_natCast]
  by_cases h1 : c < 128
  · rw [if_pos h1, enc1 h1]
  by_cases h2 : c < 2048
  · rw [if_neg h1, if_pos h2, enc2 (by omega) h2]
  by_cases h3 : c < 65536
  · rw [if_neg h1, if_neg h2, if_pos h3, enc3 (by omega) h3 hv]
  · rw [if_neg h1, if_neg h2, if_neg h3, enc4 (by omega) hlt]

theorem runesB_enc {c : Nat} (hv : vr c) : runesB [(c : Int)] = enc c := by
  unfold runesB
  simp only [List.flatMap_cons, List.flatMap_nil, List.append_nil]
  exact encode_enc hv

theorem encL_snoc (rs : List Nat) (c : Nat) : encL (rs ++ [c]) = encL rs ++ enc c := by simp [encL]

theorem dtrue {p : Prop} [Decidable p] (h : p) : decide p = true := decide_eq_true h
theorem dfalse {p : Prop} [Decidable p] (h : ¬ p) : decide p = false := decide_eq_false h

/-- The rune of a raw value. -/
def runeOf (z : Int) : Nat := if 55296 ≤ z ∧ z ≤ 57343 then 120 else z.toNat
theorem runeOf_vr {z : Int} (h0 : 0 ≤ z) (h1 : z < 1114112) : vr (runeOf z) := by unfold runeOf vr; split <;> omega

theorem text_add {R : Type} (raw : List Int) (s : Str) (i : Nat) (rec' : List Int → Str → Int → Option R) {z : Int} (h0 : 0 ≤ z) (h1 : z < 1114112) (hl : s.length ≤ 4 * i) (hi : i < 200) :
    (bif (decide (z ≥ (55296 : Int))) then (bif (decide (z ≤ (57343 : Int))) then (chk (decide (s.length + (runesB ([120] : List Int)).length ≤ 9223372036854775807)) (rec' raw (s ++ (runesB ([120] : List Int))) (IntKind.i64.wrap ((i : Int) + 1)))) else (chk (decide (s.length + (runesB ([(IntKind.i32.wrap z)] : List Int)).length ≤ 9223372036854775807)) (rec' raw (s ++ (runesB ([(IntKind.i32.wrap z)] : List Int))) (IntKind.i64.wrap ((i : Int) + 1))))) else (chk (decide (s.length + (runesB ([(IntKind.i32.wrap z)] : List Int)).length ≤ 9223372036854775807)) (rec' raw (s ++ (runesB ([(IntKind.i32.wrap z)] : List Int))) (IntKind.i64.wrap ((i : Int) + 1))))) =
      rec' raw (s ++ enc (runeOf z)) ((i + 1 : Nat) : Int) := by
  have hw : IntKind.i64.wrap ((i : Int) + 1) = ((i + 1 : Nat) : Int) := by rw [wrap_id (by omega) (by omega)]; omega
  have hv := runeOf_vr h0 h1
  have hle := enc_len hv
  by_cases hb : 55296 ≤ z ∧ z ≤ 57343
  · have e : runesB [120] = enc (runeOf z) := by unfold runeOf at hv ⊢; rw [if_pos hb] at hv ⊢; exact runesB_enc hv
    rw [dtrue (show z ≥ 55296 from hb.1), cond_true, dtrue hb.2, cond_true, e, chk_pos (dtrue (by omega)), hw]
  · have e : runesB [IntKind.i32.wrap z] = enc (runeOf z) := by
      unfold runeOf at hv ⊢; rw [if_neg hb] at hv ⊢
      rw [← runesB_enc hv, wrap32_id h0 h1, Int.toNat_of_nonneg h0]
    by_cases hc : z ≥ 55296
    · rw [dtrue hc, cond_true, dfalse (show ¬ z ≤ 57343 by omega), cond_false, e, chk_pos (dtrue (by omega)), hw]
    · rw [dfalse hc, cond_false, e, chk_pos (dtrue (by omega)), hw]

theorem tdiv_i64 {n k : Int} (h : I64 n) (hk : 1 < k) : I64 (Int.tdiv n k) := by
  have h1 : (Int.tdiv n k).natAbs ≤ n.natAbs := by rw [Int.natAbs_tdiv]; exact Nat.div_le_self _ _
  have h2 : (Int.tdiv n k).natAbs = n.natAbs / k.natAbs := Int.natAbs_tdiv _ _
  unfold I64 at h ⊢
  have h3 : n.natAbs / k.natAbs ≤ n.natAbs / 2 := Nat.div_le_div_left (by omega) (by omega)
  omega

theorem text_loop {R : Type} (raw : List Int) (hraw : ∀ x ∈ raw, I64 x) : ∀ (n i : Nat) (rs : List Nat), i ≤ raw.length → raw.length - i < n → i ≤ 200 → (∀ c ∈ rs, vr c) → (encL rs).length ≤ 4 * i →
    ∃ rs' : List Nat, (∀ c ∈ rs', vr c) ∧ (encL rs').length ≤ 800 ∧ ∀ e0 : Str → Option R, law02_Text_3_0_L n raw (encL rs) (i : Int) e0 = e0 (encL rs') := by
  intro n
  induction n with
  | zero => intro i rs h1 h2; omega
  | succ n ih =>
    intro i rs h1 h2 h3 hrs hl
    by_cases hi : i < raw.length
    · by_cases hi2 : i < 200
      · have hx : I64 raw[i] := hraw _ (List.getElem_mem hi)
        have hget : raw.getD (i : Int).toNat (Ty.dflt (.int .i64)) = raw[i] := by simp [List.getD, hi]; rfl
        have key : ∀ z : Int, 0 ≤ z → z < 1114112 → ∃ rs' : List Nat, (∀ c ∈ rs', vr c) ∧ (encL rs').length ≤ 800 ∧ ∀ e0 : Str → Option R, law02_Text_3_0_L n raw (encL rs ++ enc (runeOf z)) ((i + 1 : Nat) : Int) e0 = e0 (encL rs') := by
          intro z z0 z1
          have hv := runeOf_vr z0 z1
          have hle := enc_len hv
          obtain ⟨rs', q1, q2, q3⟩ := ih (i + 1) (rs ++ [runeOf z]) (by omega) (by omega) (by omega) (by
            intro c hc
            rcases List.mem_append.1 hc with hc | hc
            · exact hrs c hc
            · simp at hc; subst hc; exact hv) (by rw [encL_snoc, List.length_append]; omega)
          exact ⟨rs', q1, q2, fun e0 => by rw [← q3 e0, encL_snoc]⟩
        -- what is picked
        obtain ⟨y6, y60, y61, py⟩ := pick02 (R := R) raw[i] 5 hx (by omega) (by omega)
        have ht : I64 (IntKind.i64.wrap (Int.tdiv raw[i] 5)) := by
          have := tdiv_i64 (k := 5) hx (by omega)
          rw [wrap_id this.1 this.2]; exact this
        obtain ⟨a, a0, a1, pa⟩ := pick02 (R := R) (IntKind.i64.wrap (Int.tdiv raw[i] 5)) 128 ht (by omega) (by omega)
        obtain ⟨b, b0, b1, pb⟩ := pick02 (R := R) (IntKind.i64.wrap (Int.tdiv raw[i] 5)) 2048 ht (by omega) (by omega)
        obtain ⟨d, d0, d1, pd⟩ := pick02 (R := R) (IntKind.i64.wrap (Int.tdiv raw[i] 5)) 65536 ht (by omega) (by omega)
        obtain ⟨f, f0, f1, pf⟩ := pick02 (R := R) (IntKind.i64.wrap (Int.tdiv raw[i] 5)) 1114112 ht (by omega) (by omega)
        obtain ⟨rs', q1, q2, q3⟩ := key (if y6 = 0 ∨ y6 = 1 then a else if y6 = 2 then b else if y6 = 3 then d else f) (by split; omega; split; omega; split <;> omega) (by split; omega; split; omega; split <;> omega)
        refine ⟨rs', q1, q2, fun e0 => ?_⟩
        rw [← q3 e0]
        show law02_Text_3_0_B law02_pick _ raw (encL rs) (i : Int) e0 = _
        unfold law02_Text_3_0_B
        rw [dtrue (show (i : Int) < (raw.length : Int) by omega), cond_true, dtrue (show (i : Int) < 200 by omega), cond_true, dtrue (show (0 : Int) ≤ (i : Int) by omega)]
        rw [chk_pos (by rfl)]
        simp only [hget, py, pa, pb, pd, pf]
        have add := fun (z : Int) (z0 : 0 ≤ z) (z1 : z < 1114112) => text_add raw (encL rs) i (fun x0' x1' x2' => law02_Text_3_0_L (R := R) n x0' x1' x2' e0) z0 z1 hl hi2
        by_cases c0 : y6 = 0
        · rw [if_pos (.inl c0)]
          have e0' : (y6 == 0) = true := by simp [c0]
          rw [e0', cond_true, cond_true]
          exact add a a0 (by omega)
        · have e0' : (y6 == 0) = false := by simp [c0]
          rw [e0', cond_false]
          by_cases c1 : y6 = 1
          · rw [if_pos (.inr c1)]
            have e1' : (y6 == 1) = true := by simp [c1]
            rw [e1', cond_true]
            exact add a a0 (by omega)
          · have e1' : (y6 == 1) = false := by simp [c1]
            rw [e1', cond_false, if_neg (by omega)]
            by_cases c2 : y6 = 2
            · have e2' : (y6 == 2) = true := by simp [c2]
              rw [e2', cond_true, if_pos c2]
              exact add b b0 (by omega)
            · have e2' : (y6 == 2) = false := by simp [c2]
              rw [e2', cond_false, if_neg c2]
              by_cases c3 : y6 = 3
              · have e3' : (y6 == 3) = true := by simp [c3]
                rw [e3', cond_true, if_pos c3]
                exact add d d0 (by omega)
              · have e3' : (y6 == 3) = false := by simp [c3]
                rw [e3', cond_false, if_neg c3]
                exact add f f0 (by omega)
      · refine ⟨rs, hrs, by omega, fun e0 => ?_⟩
        show law02_Text_3_0_B law02_pick _ raw (encL rs) (i : Int) e0 = _
        unfold law02_Text_3_0_B
        rw [dtrue (show (i : Int) < (raw.length : Int) by omega), cond_true, dfalse (show ¬ (i : Int) < 200 by omega), cond_false]
    · refine ⟨rs, hrs, by omega, fun e0 => ?_⟩
      show law02_Text_3_0_B law02_pick _ raw (encL rs) (i : Int) e0 = _
      unfold law02_Text_3_0_B
      rw [dfalse (show ¬ (i : Int) < (raw.length : Int) by omega), cond_false]

/-- TEXT: some runes, and no more than 800 bytes. -/
theorem text_ok {R : Type} (raw : List Int) (hraw : ∀ x ∈ raw, I64 x) : ∃ rs : List Nat, (∀ c ∈ rs, vr c) ∧ (encL rs).length ≤ 800 ∧ ∀ k : Str → Option R, law02_Text raw k = k (encL rs) := by
  obtain ⟨rs, h1, h2, h3⟩ := text_loop (R := R) raw hraw (List.length raw + List.length ([] : Str) + Int.natAbs 0 + 64) 0 [] (by omega) (by omega) (by omega) (by simp) (by simp [encL])
  exact ⟨rs, h1, h2, fun k => h3 _⟩
end Go.Proofs.YtifgegmnngfckaaDoor

/-
  QuoteWhole. Own work.
-/
set_option linter.unusedVariables false
namespace Go.Proofs.YtifgegmnngfckaaDoor
open Go Go.Yard

theorem small_i64 {N : Nat} {l : List Int} (h : Small N (.sl (.int .i64) l .no)) : l.length ≤ N ∧ ∀ x ∈ l, I64 x := by
  cases h with
  | sl h he => exact ⟨h, fun x hx => i64_has.1 (he x hx (.int .i64 x) (by simp [Ty.cells])).int_inv⟩

theorem quoteWhole_true {R : Type} (s : Str) (raw : List Int) (hs : Small 1048576 (.str s)) (hr : Small 1048576 (.sl (.int .i64) raw .no)) (k : Bool → Option R) : law02_QuoteWhole s raw k = k true := by
  obtain ⟨rs, h1, h2, h3⟩ := text_ok (R := R) raw (small_i64 hr).2
  have hsl := hs.str_inv
  show law02_QuoteWhole_X law02_awake law02_Text quote_Whole s raw k = k true
  unfold law02_QuoteWhole_X
  rw [awake02]
  simp only [h3, cond_true]
  have hw : validS (encL rs) = true := whole_iff.2 ⟨rs, h1, rfl⟩
  have q : ∀ (x : Str) (f : Bool → Option R), quote_Whole x f = f (validS x) := fun _ _ => rfl
  simp only [q, hw, cond_true, validS_app hw]
  rw [chk_pos (dtrue (by omega))]
  simp only [BEq.rfl, cond_true]
  rw [chk_pos (dtrue (by omega)), chk_pos (dtrue (by simp only [List.length_append, List.length_cons, List.length_nil]; omega))]
  have e : (s ++ [97]) ++ encL rs = s ++ (97 : UInt8) :: encL rs := by simp
  rw [e, validS_mid (by decide) _ s.length s (Nat.le_refl _), hw]
  simp
end Go.Proofs.YtifgegmnngfckaaDoor

/-
  Functions of the program as pure Lean functions, and the ties; printed by wip/tools/emit.py.
-/
set_option maxRecDepth 100000
set_option linter.unusedVariables false
namespace Go.Proofs.YtifgegmnngfckaaDoor
open Go Go.Yard

/-! ### humpyard/humpyardlaw01.pick -/
abbrev law01_pick_ty (R : Type) : Type := Int → Int → (Int → Option R) → Option R
abbrev law01_pick_p : List Pat := [.leaf (.int .i64), .leaf (.int .i64)]
abbrev law01_pick_q : List HPat := []
noncomputable def law01_pick_rr {R : Type} (fn : law01_pick_ty R) : Pat.dens law01_pick_p → HPat.dens law01_pick_q → (V → Heap → Option R) → Option R := fun x y k => fn x.1 x.2.1 (fun q0 => k (.int .i64 q0) [])
noncomputable def law01_pick_E (R : Type) : Env R := fun i => match i with
  | _ => none
theorem law01_pick_EOk (R : Type) : EOk Tryd.prog (law01_pick_E R) := by
  intro i b sp h
  unfold law01_pick_E at h
  split at h
  · cases h

noncomputable def law01_pick_T (R : Type) : Nat → Option (Hint × LSpec R) := fun i => match i with
  | _ => none

noncomputable def law01_pick_X {R : Type} (x1 : Int) (x2 : Int) (k0 : Int → Option R) : Option R :=
  bif (decide (x1 < (0 : Int))) then (chk (!decide (x2 = 0)) (k0 (Int.tmod (IntKind.i64.wrap (0 - (IntKind.i64.wrap (x1 + 1)))) x2))) else (chk (!decide (x2 = 0)) (k0 (Int.tmod x1 x2)))
noncomputable def law01_pick {R : Type} : law01_pick_ty R := fun x1 x2 k0 => law01_pick_X x1 x2 k0
theorem law01_pick_ok {R : Type} (x1 : Int) (x2 : Int) (k : V → Heap → Option R) : funK tt (law01_pick_E R) (law01_pick_T R) false Tryd.f31 (codeOf Tryd.f31) [.int .i64 x1, .int .i64 x2] [] k =
    law01_pick_X x1 x2 (fun q0 => k (.int .i64 q0) []) := by kernel_rfl
theorem law01_pick_loops (R : Type) : ∀ a ∈ loopsOf (codeOf Tryd.f31), LoopOk tt (law01_pick_E R) (law01_pick_T R) 0 a := by
  refine loops_ok 0 (by kernel_rfl) fun i hi => ?_
  omega
theorem law01_pick_S_ok (R : Type) (other : Yard.Spec R) (ho : Yard.Spec.Ok Tryd.prog 31 other) : Yard.Spec.Ok Tryd.prog 31 (specBy law01_pick_p law01_pick_q (law01_pick_rr law01_pick) other) :=
  specBy_ok ho (funK_sound TT mixed (law01_pick_EOk R) (keep := false) rfl rfl rfl rfl 0 (law01_pick_loops R)) fun (x : Pat.dens law01_pick_p) (y : HPat.dens law01_pick_q) k => law01_pick_ok x.1 x.2.1 k

/-! ### humpyard/humpyardlaw01.Fit -/
abbrev law01_Fit_ty (R : Type) : Type := Int → Int → (Dcm → Option R) → Option R
abbrev law01_Fit_p : List Pat := [.leaf (.int .i64), .leaf (.int .i64)]
abbrev law01_Fit_q : List HPat := []
noncomputable def law01_Fit_rr {R : Type} (fn : law01_Fit_ty R) : Pat.dens law01_Fit_p → HPat.dens law01_Fit_q → (V → Heap → Option R) → Option R := fun x y k => fn x.1 x.2.1 (fun q0 => k (.agg [.int .i64 q0.mant, .int .i64 q0.exp]) [])
abbrev law01_Fit_3_0_ty (R : Type) : Type := Nat → Int → Int → Dcm → (Int → Int → Dcm → Option R) → Option R
noncomputable def law01_Fit_E (R : Type) (law01_pick : law01_pick_ty R) : Env R := fun i => match i with
  | 31 => some (true, (specBy law01_pick_p law01_pick_q (law01_pick_rr law01_pick) specNo))
  | _ => none
theorem law01_Fit_EOk (R : Type) : EOk Tryd.prog (law01_Fit_E R law01_pick) := by
  intro i b sp h
  unfold law01_Fit_E at h
  split at h
  · cases h; exact ⟨(law01_pick_S_ok R _ (specNo_ok _)), fun h => nomatch h⟩
  · cases h

noncomputable def law01_Fit_3_0_B {R : Type} (rec' : Int → Int → Dcm → Option R) (x5 : Int) (x6 : Int) (x7 : Dcm) (e0 : Int → Int → Dcm → Option R) : Option R :=
  bif (x5 != 0) then (bif ((Int.tmod x5 10) == 0) then (rec' (IntKind.i64.wrap (Int.tdiv x5 10)) x6 x7) else (e0 x5 x6 x7)) else (e0 x5 x6 x7)
noncomputable def law01_Fit_3_0_L {R : Type} : law01_Fit_3_0_ty R
  | 0, _, _, _, _ => none
  | n + 1, x0', x1', x2', e0 => law01_Fit_3_0_B (fun x0' x1' x2' => law01_Fit_3_0_L n x0' x1' x2' e0) x0' x1' x2' e0
noncomputable def law01_Fit_3_0_h : Hint := { live := [4, 5, 6], own := [], rows := [], cells := [], drop := [], out := [4, 5, 6] }
abbrev law01_Fit_3_0_D : Type := Int × Int × Dcm
noncomputable def law01_Fit_3_0_enc : law01_Fit_3_0_D → St := fun d => ⟨[.undef, .undef, .undef, .undef, .ptr 0 0, .int .i64 d.1, .int .i64 d.2.1, .undef, .undef, .undef, .undef, .undef, .undef, .undef, .undef, .undef, .undef, .undef, .undef, .undef, .undef, .undef, .undef, .undef, .undef, .undef, .undef], [.cells [.int .i64 d.2.2.mant, .int .i64 d.2.2.exp]]⟩
noncomputable def law01_Fit_3_0_x0 {R : Type} (K : Ex → St → Option R) (q0 : Int) (q1 : Int) (q2 : Dcm) : Option R := K (.exit 0) ⟨[.undef, .undef, .undef, .undef, .ptr 0 0, .int .i64 q0, .int .i64 q1, .undef, .undef, .undef, .undef, .undef, .undef, .undef, .undef, .undef, .undef, .undef, .undef, .undef, .undef, .undef, .undef, .undef, .undef, .undef, .undef], [.cells [.int .i64 q2.mant, .int .i64 q2.exp]]⟩
noncomputable def law01_Fit_3_0_s {R : Type} (K : Ex → St → Option R) (rc : law01_Fit_3_0_D → Option R) (d : law01_Fit_3_0_D) : Option R := law01_Fit_3_0_B (fun z0 z1 z2 => rc (z0, z1, z2)) d.1 d.2.1 d.2.2 (law01_Fit_3_0_x0 K)
noncomputable def law01_Fit_3_0_A {R : Type} (K : Ex → St → Option R) (n : Nat) (d : law01_Fit_3_0_D) : Option R := law01_Fit_3_0_L n d.1 d.2.1 d.2.2 (law01_Fit_3_0_x0 K)
abbrev law01_Fit_3_0_p : List Pat := [.leaf (.undef), .leaf (.undef), .leaf (.undef), .leaf (.undef), .leaf (.ptr 0 0), .leaf (.int .i64), .leaf (.int .i64), .leaf (.undef), .leaf (.undef), .leaf (.undef), .leaf (.undef), .leaf (.undef), .leaf (.undef), .leaf (.undef), .leaf (.undef), .leaf (.undef), .leaf (.undef), .leaf (.undef), .leaf (.undef), .leaf (.undef), .leaf (.undef), .leaf (.undef), .leaf (.undef), .leaf (.undef), .leaf (.undef), .leaf (.undef), .leaf (.undef)]
abbrev law01_Fit_3_0_q : List HPat := [.cells [.int .i64, .int .i64]]
noncomputable def law01_Fit_3_0_f (x : Pat.dens law01_Fit_3_0_p) (y : HPat.dens law01_Fit_3_0_q) : Nat := (Int.natAbs x.2.2.2.2.2.1 + Int.natAbs x.2.2.2.2.2.2.1 + Dcm.fu (⟨y.1.1, y.1.2.1⟩ : Dcm) + 64)
noncomputable def law01_Fit_3_0_d (x : Pat.dens law01_Fit_3_0_p) (y : HPat.dens law01_Fit_3_0_q) : law01_Fit_3_0_D := (x.2.2.2.2.2.1, x.2.2.2.2.2.2.1, (⟨y.1.1, y.1.2.1⟩ : Dcm))
noncomputable def law01_Fit_3_0_rr {R : Type} (L : law01_Fit_3_0_ty R) : Pat.dens law01_Fit_3_0_p → HPat.dens law01_Fit_3_0_q → (Ex → St → Option R) → Option R := fun x y K => L (law01_Fit_3_0_f x y) x.2.2.2.2.2.1 x.2.2.2.2.2.2.1 (⟨y.1.1, y.1.2.1⟩ : Dcm) (law01_Fit_3_0_x0 K)
noncomputable def law01_Fit_T (R : Type) (law01_Fit_3_0_L : law01_Fit_3_0_ty R) : Nat → Option (Hint × LSpec R) := fun i => match i with
  | 3 => some (law01_Fit_3_0_h, (loopBy law01_Fit_3_0_p law01_Fit_3_0_q (law01_Fit_3_0_rr law01_Fit_3_0_L) loopNo))
  | _ => none

theorem law01_Fit_3_0_B_ok {R : Type} (law01_pick : law01_pick_ty R) (law01_Fit_3_0_L : law01_Fit_3_0_ty R) (K : Ex → St → Option R) (rc : St → Option R) (d : law01_Fit_3_0_D) : roundOf tt (law01_Fit_E R law01_pick) (law01_Fit_T R law01_Fit_3_0_L) 0 ((loopsOf (codeOf Tryd.f27)).getD 0 .skip) law01_Fit_3_0_h (law01_Fit_3_0_enc d) rc K = law01_Fit_3_0_s K (fun d => rc (law01_Fit_3_0_enc d)) d := by kernel_rfl
theorem law01_Fit_3_0_A_succ {R : Type} (K : Ex → St → Option R) (n : Nat) (d : law01_Fit_3_0_D) : law01_Fit_3_0_A K (n + 1) d = law01_Fit_3_0_s K (law01_Fit_3_0_A K n) d := by kernel_rfl
theorem law01_Fit_3_0_A_zero {R : Type} (K : Ex → St → Option R) (d : law01_Fit_3_0_D) : law01_Fit_3_0_A K 0 d = none := by kernel_rfl
theorem law01_Fit_3_0_e_ok (x : Pat.dens law01_Fit_3_0_p) (y : HPat.dens law01_Fit_3_0_q) : (⟨Pat.encL law01_Fit_3_0_p x, HPat.encL law01_Fit_3_0_q y⟩ : St) = law01_Fit_3_0_enc (law01_Fit_3_0_d x y) := by kernel_rfl
theorem law01_Fit_3_0_r_ok {R : Type} (x : Pat.dens law01_Fit_3_0_p) (y : HPat.dens law01_Fit_3_0_q) (K : Ex → St → Option R) : law01_Fit_3_0_rr (law01_Fit_3_0_L) x y K = law01_Fit_3_0_A K (law01_Fit_3_0_f x y) (law01_Fit_3_0_d x y) := by kernel_rfl
theorem law01_Fit_3_0_ok {R : Type} (other : LSpec R) (ho : LsOk tt (law01_Fit_E R law01_pick) (law01_Fit_T R law01_Fit_3_0_L) 0 ((loopsOf (codeOf Tryd.f27)).getD 0 .skip) law01_Fit_3_0_h other) : LsOk tt (law01_Fit_E R law01_pick) (law01_Fit_T R law01_Fit_3_0_L) 0 ((loopsOf (codeOf Tryd.f27)).getD 0 .skip) law01_Fit_3_0_h (loopBy law01_Fit_3_0_p law01_Fit_3_0_q (law01_Fit_3_0_rr (law01_Fit_3_0_L)) other) :=
  loopBy_tie (A := law01_Fit_3_0_A) ho (loop_tie law01_Fit_3_0_enc (law01_Fit_3_0_s) (law01_Fit_3_0_A) (law01_Fit_3_0_A_zero) (law01_Fit_3_0_B_ok law01_pick law01_Fit_3_0_L) (law01_Fit_3_0_A_succ)) law01_Fit_3_0_f law01_Fit_3_0_d law01_Fit_3_0_e_ok (law01_Fit_3_0_r_ok)

noncomputable def law01_Fit_X {R : Type} (law01_pick : law01_pick_ty R) (law01_Fit_3_0_L : law01_Fit_3_0_ty R) (x1 : Int) (x2 : Int) (k0 : Dcm → Option R) : Option R :=
  law01_pick x1 2000000000000001 (fun y3 => law01_pick x2 19 (fun y4 => law01_Fit_3_0_L (Int.natAbs (IntKind.i64.wrap (y3 - 1000000000000000)) + Int.natAbs (IntKind.i64.wrap (y4 - 9)) + Dcm.fu (⟨0, 0⟩ : Dcm) + 64) (IntKind.i64.wrap (y3 - 1000000000000000)) (IntKind.i64.wrap (y4 - 9)) (⟨0, 0⟩ : Dcm) (fun y9 y10 y11 => bif (y9 == 0) then (k0 (⟨y9, 0⟩ : Dcm)) else (k0 (⟨y9, y10⟩ : Dcm)))))
noncomputable def law01_Fit {R : Type} : law01_Fit_ty R := fun x1 x2 k0 => law01_Fit_X law01_pick law01_Fit_3_0_L x1 x2 k0
theorem law01_Fit_ok {R : Type} (law01_pick : law01_pick_ty R) (law01_Fit_3_0_L : law01_Fit_3_0_ty R) (x1 : Int) (x2 : Int) (k : V → Heap → Option R) : funK tt (law01_Fit_E R law01_pick) (law01_Fit_T R law01_Fit_3_0_L) false Tryd.f27 (codeOf Tryd.f27) [.int .i64 x1, .int .i64 x2] [] k =
    law01_Fit_X law01_pick law01_Fit_3_0_L x1 x2 (fun q0 => k (.agg [.int .i64 q0.mant, .int .i64 q0.exp]) []) := by kernel_rfl
theorem law01_Fit_loops (R : Type) : ∀ a ∈ loopsOf (codeOf Tryd.f27), LoopOk tt (law01_Fit_E R law01_pick) (law01_Fit_T R law01_Fit_3_0_L) 0 a := by
  refine loops_ok 1 (by kernel_rfl) fun i hi => ?_
  match i, hi with
  | 0, _ => exact loopOk_some (by kernel_rfl) (law01_Fit_3_0_ok _ loopNo_ok)
  | n + 1, hi => omega
theorem law01_Fit_S_ok (R : Type) (other : Yard.Spec R) (ho : Yard.Spec.Ok Tryd.prog 27 other) : Yard.Spec.Ok Tryd.prog 27 (specBy law01_Fit_p law01_Fit_q (law01_Fit_rr law01_Fit) other) :=
  specBy_ok ho (funK_sound TT mixed (law01_Fit_EOk R) (keep := false) rfl rfl rfl rfl 0 (law01_Fit_loops R)) fun (x : Pat.dens law01_Fit_p) (y : HPat.dens law01_Fit_q) k => law01_Fit_ok law01_pick law01_Fit_3_0_L x.1 x.2.1 k

/-! ### humpyard/humpyardlaw01.DecimalBack -/
abbrev law01_DecimalBack_ty (R : Type) : Type := Int → Int → (Bool → Option R) → Option R
abbrev law01_DecimalBack_p : List Pat := [.leaf (.int .i64), .leaf (.int .i64)]
abbrev law01_DecimalBack_q : List HPat := []
noncomputable def law01_DecimalBack_rr {R : Type} (fn : law01_DecimalBack_ty R) : Pat.dens law01_DecimalBack_p → HPat.dens law01_DecimalBack_q → (V → Heap → Option R) → Option R := fun x y k => fn x.1 x.2.1 (fun q0 => k (.bool q0) [])
noncomputable def law01_DecimalBack_E (R : Type) (law01_awake : law01_awake_ty R) (law01_Fit : law01_Fit_ty R) (decimal_Print : decimal_Print_ty R) (decimal_Parse : decimal_Parse_ty R) (decimal_Right : decimal_Right_ty R) : Env R := fun i => match i with
  | 26 => some (true, (specBy law01_awake_p law01_awake_q (law01_awake_rr law01_awake) specNo))
  | 27 => some (true, (specBy law01_Fit_p law01_Fit_q (law01_Fit_rr law01_Fit) specNo))
  | 28 => some (true, (specBy decimal_Print_p decimal_Print_q (decimal_Print_rr decimal_Print) specNo))
  | 29 => some (true, (specBy decimal_Parse_p decimal_Parse_q (decimal_Parse_rr decimal_Parse) specNo))
  | 30 => some (true, (specBy decimal_Right_p decimal_Right_q (decimal_Right_rr decimal_Right) specNo))
  | _ => none
theorem law01_DecimalBack_EOk (R : Type) : EOk Tryd.prog (law01_DecimalBack_E R law01_awake law01_Fit decimal_Print decimal_Parse decimal_Right) := by
  intro i b sp h
  unfold law01_DecimalBack_E at h
  split at h
  · cases h; exact ⟨(law01_awake_S_ok R _ (specNo_ok _)), fun h => nomatch h⟩
  · cases h; exact ⟨(law01_Fit_S_ok R _ (specNo_ok _)), fun h => nomatch h⟩
  · cases h; exact ⟨(decimal_Print_S_ok R _ (specNo_ok _)), fun h => nomatch h⟩
  · cases h; exact ⟨(decimal_Parse_S_ok R _ (specNo_ok _)), fun h => nomatch h⟩
  · cases h; exact ⟨(decimal_Right_S_ok R _ (specNo_ok _)), fun h => nomatch h⟩
  · cases h

noncomputable def law01_DecimalBack_T (R : Type) : Nat → Option (Hint × LSpec R) := fun i => match i with
  | _ => none

noncomputable def law01_DecimalBack_X {R : Type} (law01_awake : law01_awake_ty R) (law01_Fit : law01_Fit_ty R) (decimal_Print : decimal_Print_ty R) (decimal_Parse : decimal_Parse_ty R) (decimal_Right : decimal_Right_ty R) (x1 : Int) (x2 : Int) (k0 : Bool → Option R) : Option R :=
  law01_awake (fun y3 => law01_Fit x1 x2 (fun y4 => decimal_Print y4 (fun y5 => decimal_Parse y5 (fun y6 y7 => bif y3 then (decimal_Right y4 (fun y8 => bif y8 then (bif (!(y5 == ([] : Str))) then (bif y7 then (k0 (y6.mant == y4.mant && (y6.exp == y4.exp && true))) else (k0 false)) else (k0 false)) else (k0 false))) else (k0 false)))))
noncomputable def law01_DecimalBack {R : Type} : law01_DecimalBack_ty R := fun x1 x2 k0 => law01_DecimalBack_X law01_awake law01_Fit decimal_Print decimal_Parse decimal_Right x1 x2 k0
theorem law01_DecimalBack_ok {R : Type} (law01_awake : law01_awake_ty R) (law01_Fit : law01_Fit_ty R) (decimal_Print : decimal_Print_ty R) (decimal_Parse : decimal_Parse_ty R) (decimal_Right : decimal_Right_ty R) (x1 : Int) (x2 : Int) (k : V → Heap → Option R) : funK tt (law01_DecimalBack_E R law01_awake law01_Fit decimal_Print decimal_Parse decimal_Right) (law01_DecimalBack_T R) false Tryd.f10 (codeOf Tryd.f10) [.int .i64 x1, .int .i64 x2] [] k =
    law01_DecimalBack_X law01_awake law01_Fit decimal_Print decimal_Parse decimal_Right x1 x2 (fun q0 => k (.bool q0) []) := by kernel_rfl
theorem law01_DecimalBack_loops (R : Type) : ∀ a ∈ loopsOf (codeOf Tryd.f10), LoopOk tt (law01_DecimalBack_E R law01_awake law01_Fit decimal_Print decimal_Parse decimal_Right) (law01_DecimalBack_T R) 0 a := by
  refine loops_ok 0 (by kernel_rfl) fun i hi => ?_
  omega
theorem law01_DecimalBack_S_ok (R : Type) (other : Yard.Spec R) (ho : Yard.Spec.Ok Tryd.prog 10 other) : Yard.Spec.Ok Tryd.prog 10 (specBy law01_DecimalBack_p law01_DecimalBack_q (law01_DecimalBack_rr law01_DecimalBack) other) :=
  specBy_ok ho (funK_sound TT mixed (law01_DecimalBack_EOk R) (keep := false) rfl rfl rfl rfl 0 (law01_DecimalBack_loops R)) fun (x : Pat.dens law01_DecimalBack_p) (y : HPat.dens law01_DecimalBack_q) k => law01_DecimalBack_ok law01_awake law01_Fit decimal_Print decimal_Parse decimal_Right x.1 x.2.1 k

end Go.Proofs.YtifgegmnngfckaaDoor

/-
  Functions of the program as pure Lean functions, and the ties; printed by wip/tools/emit.py.
-/
set_option maxRecDepth 100000
set_option linter.unusedVariables false
namespace Go.Proofs.YtifgegmnngfckaaDoor
open Go Go.Yard

/-! ### humpyard/humpyardlaw01.DecimalMoves -/
abbrev law01_DecimalMoves_ty (R : Type) : Type := Int → Int → Int → (Bool → Option R) → Option R
abbrev law01_DecimalMoves_p : List Pat := [.leaf (.int .i64), .leaf (.int .i64), .leaf (.int .i64)]
abbrev law01_DecimalMoves_q : List HPat := []
noncomputable def law01_DecimalMoves_rr {R : Type} (fn : law01_DecimalMoves_ty R) : Pat.dens law01_DecimalMoves_p → HPat.dens law01_DecimalMoves_q → (V → Heap → Option R) → Option R := fun x y k => fn x.1 x.2.1 x.2.2.1 (fun q0 => k (.bool q0) [])
abbrev law01_DecimalMoves_7_0_ty (R : Type) : Type := Nat → Int → Bool → Int → Bool → Int → Int → Dcm → (Int → Bool → Int → Bool → Int → Dcm → Option R) → Option R
noncomputable def law01_DecimalMoves_E (R : Type) (law01_awake : law01_awake_ty R) (decimal_Right : decimal_Right_ty R) (law01_pick : law01_pick_ty R) (decimal_Make : decimal_Make_ty R) : Env R := fun i => match i with
  | 26 => some (true, (specBy law01_awake_p law01_awake_q (law01_awake_rr law01_awake) specNo))
  | 30 => some (true, (specBy decimal_Right_p decimal_Right_q (decimal_Right_rr decimal_Right) specNo))
  | 31 => some (true, (specBy law01_pick_p law01_pick_q (law01_pick_rr law01_pick) specNo))
  | 32 => some (true, (specBy decimal_Make_p decimal_Make_q (decimal_Make_rr decimal_Make) specNo))
  | _ => none
theorem law01_DecimalMoves_EOk (R : Type) : EOk Tryd.prog (law01_DecimalMoves_E R law01_awake decimal_Right law01_pick decimal_Make) := by
  intro i b sp h
  unfold law01_DecimalMoves_E at h
  split at h
  · cases h; exact ⟨(law01_awake_S_ok R _ (specNo_ok _)), fun h => nomatch h⟩
  · cases h; exact ⟨(decimal_Right_S_ok R _ (specNo_ok _)), fun h => nomatch h⟩
  · cases h; exact ⟨(law01_pick_S_ok R _ (specNo_ok _)), fun h => nomatch h⟩
  · cases h; exact ⟨(decimal_Make_S_ok R _ (specNo_ok _)), fun h => nomatch h⟩
  · cases h

noncomputable def law01_DecimalMoves_7_0_B {R : Type} (law01_pick : law01_pick_ty R) (rec' : Int → Bool → Int → Bool → Int → Int → Dcm → Option R) (x9 : Int) (x10 : Bool) (x11 : Int) (x12 : Bool) (x13 : Int) (x14 : Int) (x15 : Dcm) (e0 : Int → Bool → Int → Bool → Int → Dcm → Option R) : Option R :=
  law01_pick x9 4 (fun y16 => bif (decide (x14 < y16)) then (rec' x9 x10 x11 x12 (IntKind.i64.wrap (10 * x13)) (IntKind.i64.wrap (x14 + 1)) x15) else (e0 x9 x10 x11 x12 x13 x15))
noncomputable def law01_DecimalMoves_7_0_L {R : Type} : law01_DecimalMoves_7_0_ty R
  | 0, _, _, _, _, _, _, _, _ => none
  | n + 1, x0', x1', x2', x3', x4', x5', x6', e0 => law01_DecimalMoves_7_0_B law01_pick (fun x0' x1' x2' x3' x4' x5' x6' => law01_DecimalMoves_7_0_L n x0' x1' x2' x3' x4' x5' x6' e0) x0' x1' x2' x3' x4' x5' x6' e0
noncomputable def law01_DecimalMoves_7_0_h : Hint := { live := [2, 7, 9, 10, 11, 12, 13], own := [], rows := [], cells := [], drop := [], out := [2, 6, 7, 9, 10, 11, 12] }
abbrev law01_DecimalMoves_7_0_D : Type := Int × Bool × Int × Bool × Int × Int × Dcm
noncomputable def law01_DecimalMoves_7_0_enc : law01_DecimalMoves_7_0_D → St := fun d => ⟨[.undef, .undef, .int .i64 d.1, .undef, .undef, .undef, .undef, .bool d.2.1, .undef, .int .i64 d.2.2.1, .ptr 0 0, .bool d.2.2.2.1, .int .i64 d.2.2.2.2.1, .int .i64 d.2.2.2.2.2.1, .undef, .undef, .undef, .undef, .undef, .undef, .undef, .undef, .undef, .undef, .undef, .undef, .undef, .undef, .undef, .undef, .undef, .undef, .undef, .undef, .undef, .undef, .undef, .undef, .undef, .undef, .undef, .undef, .undef, .undef, .undef, .undef, .undef, .undef, .undef, .undef, .undef, .undef, .undef, .undef, .undef, .undef, .undef, .undef, .undef, .undef, .undef, .undef, .undef, .undef, .undef, .undef], [.cells [.int .i64 d.2.2.2.2.2.2.mant, .int .i64 d.2.2.2.2.2.2.exp]]⟩
noncomputable def law01_DecimalMoves_7_0_x0 {R : Type} (K : Ex → St → Option R) (q0 : Int) (q1 : Bool) (q2 : Int) (q3 : Bool) (q4 : Int) (q5 : Dcm) : Option R := K (.exit 0) ⟨[.undef, .undef, .int .i64 q0, .undef, .undef, .undef, .undef, .bool q1, .undef, .int .i64 q2, .ptr 0 0, .bool q3, .int .i64 q4, .undef, .undef, .undef, .undef, .undef, .undef, .undef, .undef, .undef, .undef, .undef, .undef, .undef, .undef, .undef, .undef, .undef, .undef, .undef, .undef, .undef, .undef, .undef, .undef, .undef, .undef, .undef, .undef, .undef, .undef, .undef, .undef, .undef, .undef, .undef, .undef, .undef, .undef, .undef, .undef, .undef, .undef, .undef, .undef, .undef, .undef, .undef, .undef, .undef, .undef, .undef, .undef, .undef], [.cells [.int .i64 q5.mant, .int .i64 q5.exp]]⟩
noncomputable def law01_DecimalMoves_7_0_s {R : Type} (law01_pick : law01_pick_ty R) (K : Ex → St → Option R) (rc : law01_DecimalMoves_7_0_D → Option R) (d : law01_DecimalMoves_7_0_D) : Option R := law01_DecimalMoves_7_0_B law01_pick (fun z0 z1 z2 z3 z4 z5 z6 => rc (z0, z1, z2, z3, z4, z5, z6)) d.1 d.2.1 d.2.2.1 d.2.2.2.1 d.2.2.2.2.1 d.2.2.2.2.2.1 d.2.2.2.2.2.2 (law01_DecimalMoves_7_0_x0 K)
noncomputable def law01_DecimalMoves_7_0_A {R : Type} (K : Ex → St → Option R) (n : Nat) (d : law01_DecimalMoves_7_0_D) : Option R := law01_DecimalMoves_7_0_L n d.1 d.2.1 d.2.2.1 d.2.2.2.1 d.2.2.2.2.1 d.2.2.2.2.2.1 d.2.2.2.2.2.2 (law01_DecimalMoves_7_0_x0 K)
abbrev law01_DecimalMoves_7_0_p : List Pat := [.leaf (.undef), .leaf (.undef), .leaf (.int .i64), .leaf (.undef), .leaf (.undef), .leaf (.undef), .leaf (.undef), .leaf (.bool), .leaf (.undef), .leaf (.int .i64), .leaf (.ptr 0 0), .leaf (.bool), .leaf (.int .i64), .leaf (.int .i64), .leaf (.undef), .leaf (.undef), .leaf (.undef), .leaf (.undef), .leaf (.undef), .leaf (.undef), .leaf (.undef), .leaf (.undef), .leaf (.undef), .leaf (.undef), .leaf (.undef), .leaf (.undef), .leaf (.undef), .leaf (.undef), .leaf (.undef), .leaf (.undef), .leaf (.undef), .leaf (.undef), .leaf (.undef), .leaf (.undef), .leaf (.undef), .leaf (.undef), .leaf (.undef), .leaf (.undef), .leaf (.undef), .leaf (.undef), .leaf (.undef), .leaf (.undef), .leaf (.undef), .leaf (.undef), .leaf (.undef), .leaf (.undef), .leaf (.undef), .leaf (.undef), .leaf (.undef), .leaf (.undef), .leaf (.undef), .leaf (.undef), .leaf (.undef), .leaf (.undef), .leaf (.undef), .leaf (.undef), .leaf (.undef), .leaf (.undef), .leaf (.undef), .leaf (.undef), .leaf (.undef), .leaf (.undef), .leaf (.undef), .leaf (.undef), .leaf (.undef), .leaf (.undef)]
abbrev law01_DecimalMoves_7_0_q : List HPat := [.cells [.int .i64, .int .i64]]
noncomputable def law01_DecimalMoves_7_0_f (x : Pat.dens law01_DecimalMoves_7_0_p) (y : HPat.dens law01_DecimalMoves_7_0_q) : Nat := (Int.natAbs x.2.2.1 + Int.natAbs x.2.2.2.2.2.2.2.2.2.1 + Int.natAbs x.2.2.2.2.2.2.2.2.2.2.2.2.1 + Int.natAbs x.2.2.2.2.2.2.2.2.2.2.2.2.2.1 + Dcm.fu (⟨y.1.1, y.1.2.1⟩ : Dcm) + 64)
noncomputable def law01_DecimalMoves_7_0_d (x : Pat.dens law01_DecimalMoves_7_0_p) (y : HPat.dens law01_DecimalMoves_7_0_q) : law01_DecimalMoves_7_0_D := (x.2.2.1, x.2.2.2.2.2.2.2.1, x.2.2.2.2.2.2.2.2.2.1, x.2.2.2.2.2.2.2.2.2.2.2.1, x.2.2.2.2.2.2.2.2.2.2.2.2.1, x.2.2.2.2.2.2.2.2.2.2.2.2.2.1, (⟨y.1.1, y.1.2.1⟩ : Dcm))
noncomputable def law01_DecimalMoves_7_0_rr {R : Type} (L : law01_DecimalMoves_7_0_ty R) : Pat.dens law01_DecimalMoves_7_0_p → HPat.dens law01_DecimalMoves_7_0_q → (Ex → St → Option R) → Option R := fun x y K => L (law01_DecimalMoves_7_0_f x y) x.2.2.1 x.2.2.2.2.2.2.2.1 x.2.2.2.2.2.2.2.2.2.1 x.2.2.2.2.2.2.2.2.2.2.2.1 x.2.2.2.2.2.2.2.2.2.2.2.2.1 x.2.2.2.2.2.2.2.2.2.2.2.2.2.1 (⟨y.1.1, y.1.2.1⟩ : Dcm) (law01_DecimalMoves_7_0_x0 K)
noncomputable def law01_DecimalMoves_T (R : Type) (law01_DecimalMoves_7_0_L : law01_DecimalMoves_7_0_ty R) : Nat → Option (Hint × LSpec R) := fun i => match i with
  | 7 => some (law01_DecimalMoves_7_0_h, (loopBy law01_DecimalMoves_7_0_p law01_DecimalMoves_7_0_q (law01_DecimalMoves_7_0_rr law01_DecimalMoves_7_0_L) loopNo))
  | _ => none

theorem law01_DecimalMoves_7_0_B_ok {R : Type} (law01_awake : law01_awake_ty R) (decimal_Right : decimal_Right_ty R) (law01_pick : law01_pick_ty R) (decimal_Make : decimal_Make_ty R) (law01_DecimalMoves_7_0_L : law01_DecimalMoves_7_0_ty R) (K : Ex → St → Option R) (rc : St → Option R) (d : law01_DecimalMoves_7_0_D) : roundOf tt (law01_DecimalMoves_E R law01_awake decimal_Right law01_pick decimal_Make) (law01_DecimalMoves_T R law01_DecimalMoves_7_0_L) 0 ((loopsOf (codeOf Tryd.f12)).getD 0 .skip) law01_DecimalMoves_7_0_h (law01_DecimalMoves_7_0_enc d) rc K = law01_DecimalMoves_7_0_s law01_pick K (fun d => rc (law01_DecimalMoves_7_0_enc d)) d := by kernel_rfl
theorem law01_DecimalMoves_7_0_A_succ {R : Type} (K : Ex → St → Option R) (n : Nat) (d : law01_DecimalMoves_7_0_D) : law01_DecimalMoves_7_0_A K (n + 1) d = law01_DecimalMoves_7_0_s law01_pick K (law01_DecimalMoves_7_0_A K n) d := by kernel_rfl
theorem law01_DecimalMoves_7_0_A_zero {R : Type} (K : Ex → St → Option R) (d : law01_DecimalMoves_7_0_D) : law01_DecimalMoves_7_0_A K 0 d = none := by kernel_rfl
theorem law01_DecimalMoves_7_0_e_ok (x : Pat.dens law01_DecimalMoves_7_0_p) (y : HPat.dens law01_DecimalMoves_7_0_q) : (⟨Pat.encL law01_DecimalMoves_7_0_p x, HPat.encL law01_DecimalMoves_7_0_q y⟩ : St) = law01_DecimalMoves_7_0_enc (law01_DecimalMoves_7_0_d x y) := by kernel_rfl
theorem law01_DecimalMoves_7_0_r_ok {R : Type} (x : Pat.dens law01_DecimalMoves_7_0_p) (y : HPat.dens law01_DecimalMoves_7_0_q) (K : Ex → St → Option R) : law01_DecimalMoves_7_0_rr (law01_DecimalMoves_7_0_L) x y K = law01_DecimalMoves_7_0_A K (law01_DecimalMoves_7_0_f x y) (law01_DecimalMoves_7_0_d x y) := by kernel_rfl
theorem law01_DecimalMoves_7_0_ok {R : Type} (other : LSpec R) (ho : LsOk tt (law01_DecimalMoves_E R law01_awake decimal_Right law01_pick decimal_Make) (law01_DecimalMoves_T R law01_DecimalMoves_7_0_L) 0 ((loopsOf (codeOf Tryd.f12)).getD 0 .skip) law01_DecimalMoves_7_0_h other) : LsOk tt (law01_DecimalMoves_E R law01_awake decimal_Right law01_pick decimal_Make) (law01_DecimalMoves_T R law01_DecimalMoves_7_0_L) 0 ((loopsOf (codeOf Tryd.f12)).getD 0 .skip) law01_DecimalMoves_7_0_h (loopBy law01_DecimalMoves_7_0_p law01_DecimalMoves_7_0_q (law01_DecimalMoves_7_0_rr (law01_DecimalMoves_7_0_L)) other) :=
  loopBy_tie (A := law01_DecimalMoves_7_0_A) ho (loop_tie law01_DecimalMoves_7_0_enc (law01_DecimalMoves_7_0_s law01_pick) (law01_DecimalMoves_7_0_A) (law01_DecimalMoves_7_0_A_zero) (law01_DecimalMoves_7_0_B_ok law01_awake decimal_Right law01_pick decimal_Make law01_DecimalMoves_7_0_L) (law01_DecimalMoves_7_0_A_succ)) law01_DecimalMoves_7_0_f law01_DecimalMoves_7_0_d law01_DecimalMoves_7_0_e_ok (law01_DecimalMoves_7_0_r_ok)

noncomputable def law01_DecimalMoves_X {R : Type} (law01_awake : law01_awake_ty R) (decimal_Right : decimal_Right_ty R) (law01_pick : law01_pick_ty R) (decimal_Make : decimal_Make_ty R) (law01_DecimalMoves_7_0_L : law01_DecimalMoves_7_0_ty R) (x1 : Int) (x2 : Int) (x3 : Int) (k0 : Bool → Option R) : Option R :=
  law01_awake (fun y4 => law01_pick x1 2000000000001 (fun y5 => law01_pick x2 30 (fun y6 => decimal_Make (IntKind.i64.wrap (y5 - 1000000000000)) (IntKind.i64.wrap (y6 - 15)) (fun y7 y8 => law01_DecimalMoves_7_0_L (Int.natAbs x3 + Int.natAbs (IntKind.i64.wrap (y6 - 15)) + Int.natAbs (IntKind.i64.wrap (y5 - 1000000000000)) + Int.natAbs 0 + Dcm.fu y7 + 64) x3 y4 (IntKind.i64.wrap (y6 - 15)) y8 (IntKind.i64.wrap (y5 - 1000000000000)) 0 y7 (fun y17 y18 y19 y20 y21 y22 => law01_pick y17 4 (fun y23 => decimal_Make y21 (IntKind.i64.wrap (y19 - y23)) (fun y24 y25 => bif y18 then (bif (y20 == y25) then (bif (y22.mant == y24.mant && (y22.exp == y24.exp && true)) then (bif (!y20) then (k0 true) else (decimal_Right y22 (fun y26 => k0 y26))) else (k0 false)) else (k0 false)) else (k0 false))))))))
noncomputable def law01_DecimalMoves {R : Type} : law01_DecimalMoves_ty R := fun x1 x2 x3 k0 => law01_DecimalMoves_X law01_awake decimal_Right law01_pick decimal_Make law01_DecimalMoves_7_0_L x1 x2 x3 k0
theorem law01_DecimalMoves_ok {R : Type} (law01_awake : law01_awake_ty R) (decimal_Right : decimal_Right_ty R) (law01_pick : law01_pick_ty R) (decimal_Make : decimal_Make_ty R) (law01_DecimalMoves_7_0_L : law01_DecimalMoves_7_0_ty R) (x1 : Int) (x2 : Int) (x3 : Int) (k : V → Heap → Option R) : funK tt (law01_DecimalMoves_E R law01_awake decimal_Right law01_pick decimal_Make) (law01_DecimalMoves_T R law01_DecimalMoves_7_0_L) false Tryd.f12 (codeOf Tryd.f12) [.int .i64 x1, .int .i64 x2, .int .i64 x3] [] k =
    law01_DecimalMoves_X law01_awake decimal_Right law01_pick decimal_Make law01_DecimalMoves_7_0_L x1 x2 x3 (fun q0 => k (.bool q0) []) := by kernel_rfl
theorem law01_DecimalMoves_loops (R : Type) : ∀ a ∈ loopsOf (codeOf Tryd.f12), LoopOk tt (law01_DecimalMoves_E R law01_awake decimal_Right law01_pick decimal_Make) (law01_DecimalMoves_T R law01_DecimalMoves_7_0_L) 0 a := by
  refine loops_ok 1 (by kernel_rfl) fun i hi => ?_
  match i, hi with
  | 0, _ => exact loopOk_some (by kernel_rfl) (law01_DecimalMoves_7_0_ok _ loopNo_ok)
  | n + 1, hi => omega
theorem law01_DecimalMoves_S_ok (R : Type) (other : Yard.Spec R) (ho : Yard.Spec.Ok Tryd.prog 12 other) : Yard.Spec.Ok Tryd.prog 12 (specBy law01_DecimalMoves_p law01_DecimalMoves_q (law01_DecimalMoves_rr law01_DecimalMoves) other) :=
  specBy_ok ho (funK_sound TT mixed (law01_DecimalMoves_EOk R) (keep := false) rfl rfl rfl rfl 0 (law01_DecimalMoves_loops R)) fun (x : Pat.dens law01_DecimalMoves_p) (y : HPat.dens law01_DecimalMoves_q) k => law01_DecimalMoves_ok law01_awake decimal_Right law01_pick decimal_Make law01_DecimalMoves_7_0_L x.1 x.2.1 x.2.2.1 k

/-! ### humpyard/humpyardlaw01.DecimalShort -/
abbrev law01_DecimalShort_ty (R : Type) : Type := Int → Int → (Bool → Option R) → Option R
abbrev law01_DecimalShort_p : List Pat := [.leaf (.int .i64), .leaf (.int .i64)]
abbrev law01_DecimalShort_q : List HPat := []
noncomputable def law01_DecimalShort_rr {R : Type} (fn : law01_DecimalShort_ty R) : Pat.dens law01_DecimalShort_p → HPat.dens law01_DecimalShort_q → (V → Heap → Option R) → Option R := fun x y k => fn x.1 x.2.1 (fun q0 => k (.bool q0) [])
abbrev law01_DecimalShort_10_0_ty (R : Type) : Type := Nat → Str → Int → Int → (Str → Int → Option R) → (Bool → Str → Int → Option R) → Option R
noncomputable def law01_DecimalShort_E (R : Type) (law01_awake : law01_awake_ty R) (law01_Fit : law01_Fit_ty R) (decimal_Print : decimal_Print_ty R) : Env R := fun i => match i with
  | 26 => some (true, (specBy law01_awake_p law01_awake_q (law01_awake_rr law01_awake) specNo))
  | 27 => some (true, (specBy law01_Fit_p law01_Fit_q (law01_Fit_rr law01_Fit) specNo))
  | 28 => some (true, (specBy decimal_Print_p decimal_Print_q (decimal_Print_rr decimal_Print) specNo))
  | _ => none
theorem law01_DecimalShort_EOk (R : Type) : EOk Tryd.prog (law01_DecimalShort_E R law01_awake law01_Fit decimal_Print) := by
  intro i b sp h
  unfold law01_DecimalShort_E at h
  split at h
  · cases h; exact ⟨(law01_awake_S_ok R _ (specNo_ok _)), fun h => nomatch h⟩
  · cases h; exact ⟨(law01_Fit_S_ok R _ (specNo_ok _)), fun h => nomatch h⟩
  · cases h; exact ⟨(decimal_Print_S_ok R _ (specNo_ok _)), fun h => nomatch h⟩
  · cases h

noncomputable def law01_DecimalShort_10_0_B {R : Type} (rec' : Str → Int → Int → Option R) (x8 : Str) (x9 : Int) (x10 : Int) (e0 : Str → Int → Option R) (e1 : Bool → Str → Int → Option R) : Option R :=
  bif (decide (x10 < (x8.length : Int))) then (chk (decide ((0 : Int) ≤ x10) && decide (x10 < x8.length)) (bif (((x8.getD x10.toNat 0).toNat : Int) == 46) then (bif (x10 == 0) then (e1 false x8 (IntKind.i64.wrap (x9 + 1))) else (bif (x10 == (IntKind.i64.wrap ((x8.length : Int) - 1))) then (e1 false x8 (IntKind.i64.wrap (x9 + 1))) else (rec' x8 (IntKind.i64.wrap (x9 + 1)) (IntKind.i64.wrap (x10 + 1))))) else (chk (decide ((0 : Int) ≤ x10) && decide (x10 < x8.length)) (bif (decide (((x8.getD x10.toNat 0).toNat : Int) < (48 : Int))) then (e1 false x8 x9) else (chk (decide ((0 : Int) ≤ x10) && decide (x10 < x8.length)) (bif (decide (((x8.getD x10.toNat 0).toNat : Int) > (57 : Int))) then (e1 false x8 x9) else (rec' x8 x9 (IntKind.i64.wrap (x10 + 1))))))))) else (e0 x8 x9)
noncomputable def law01_DecimalShort_10_0_L {R : Type} : law01_DecimalShort_10_0_ty R
  | 0, _, _, _, _, _ => none
  | n + 1, x0', x1', x2', e0, e1 => law01_DecimalShort_10_0_B (fun x0' x1' x2' => law01_DecimalShort_10_0_L n x0' x1' x2' e0 e1) x0' x1' x2' e0 e1
noncomputable def law01_DecimalShort_10_0_h : Hint := { live := [7, 8, 9], own := [], rows := [], cells := [], drop := [], out := [4, 7, 8] }
abbrev law01_DecimalShort_10_0_D : Type := Str × Int × Int
noncomputable def law01_DecimalShort_10_0_enc : law01_DecimalShort_10_0_D → St := fun d => ⟨[.undef, .undef, .undef, .undef, .undef, .undef, .undef, .str d.1, .int .i64 d.2.1, .int .i64 d.2.2, .undef, .undef, .undef, .undef, .undef, .undef, .undef, .undef, .undef, .undef, .undef, .undef, .undef, .undef, .undef, .undef, .undef, .undef, .undef, .undef, .undef, .undef, .undef, .undef, .undef, .undef, .undef, .undef, .undef, .undef, .undef, .undef, .undef, .undef, .undef, .undef, .undef, .undef, .undef, .undef, .undef, .undef, .undef, .undef, .undef, .undef, .undef, .undef, .undef, .undef, .undef, .undef, .undef, .undef, .undef, .undef, .undef, .undef, .undef, .undef, .undef, .undef, .undef, .undef, .undef, .undef, .undef, .undef, .undef, .undef, .undef, .undef, .undef, .undef, .undef, .undef, .undef, .undef, .undef, .undef], []⟩
noncomputable def law01_DecimalShort_10_0_x0 {R : Type} (K : Ex → St → Option R) (q0 : Str) (q1 : Int) : Option R := K (.exit 0) ⟨[.undef, .undef, .undef, .undef, .undef, .undef, .undef, .str q0, .int .i64 q1, .undef, .undef, .undef, .undef, .undef, .undef, .undef, .undef, .undef, .undef, .undef, .undef, .undef, .undef, .undef, .undef, .undef, .undef, .undef, .undef, .undef, .undef, .undef, .undef, .undef, .undef, .undef, .undef, .undef, .undef, .undef, .undef, .undef, .undef, .undef, .undef, .undef, .undef, .undef, .undef, .undef, .undef, .undef, .undef, .undef, .undef, .undef, .undef, .undef, .undef, .undef, .undef, .undef, .undef, .undef, .undef, .undef, .undef, .undef, .undef, .undef, .undef, .undef, .undef, .undef, .undef, .undef, .undef, .undef, .undef, .undef, .undef, .undef, .undef, .undef, .undef, .undef, .undef, .undef, .undef, .undef], []⟩
noncomputable def law01_DecimalShort_10_0_x1 {R : Type} (K : Ex → St → Option R) (q0 : Bool) (q1 : Str) (q2 : Int) : Option R := K (.ret) ⟨[.undef, .undef, .undef, .undef, .bool q0, .undef, .undef, .str q1, .int .i64 q2, .undef, .undef, .undef, .undef, .undef, .undef, .undef, .undef, .undef, .undef, .undef, .undef, .undef, .undef, .undef, .undef, .undef, .undef, .undef, .undef, .undef, .undef, .undef, .undef, .undef, .undef, .undef, .undef, .undef, .undef, .undef, .undef, .undef, .undef, .undef, .undef, .undef, .undef, .undef, .undef, .undef, .undef, .undef, .undef, .undef, .undef, .undef, .undef, .undef, .undef, .undef, .undef, .undef, .undef, .undef, .undef, .undef, .undef, .undef, .undef, .undef, .undef, .undef, .undef, .undef, .undef, .undef, .undef, .undef, .undef, .undef, .undef, .undef, .undef, .undef, .undef, .undef, .undef, .undef, .undef, .undef], []⟩
noncomputable def law01_DecimalShort_10_0_s {R : Type} (K : Ex → St → Option R) (rc : law01_DecimalShort_10_0_D → Option R) (d : law01_DecimalShort_10_0_D) : Option R := law01_DecimalShort_10_0_B (fun z0 z1 z2 => rc (z0, z1, z2)) d.1 d.2.1 d.2.2 (law01_DecimalShort_10_0_x0 K) (law01_DecimalShort_10_0_x1 K)
noncomputable def law01_DecimalShort_10_0_A {R : Type} (K : Ex → St → Option R) (n : Nat) (d : law01_DecimalShort_10_0_D) : Option R := law01_DecimalShort_10_0_L n d.1 d.2.1 d.2.2 (law01_DecimalShort_10_0_x0 K) (law01_DecimalShort_10_0_x1 K)
abbrev law01_DecimalShort_10_0_p : List Pat := [.leaf (.undef), .leaf (.undef), .leaf (.undef), .leaf (.undef), .leaf (.undef), .leaf (.undef), .leaf (.undef), .leaf (.str), .leaf (.int .i64), .leaf (.int .i64), .leaf (.undef), .leaf (.undef), .leaf (.undef), .leaf (.undef), .leaf (.undef), .leaf (.undef), .leaf (.undef), .leaf (.undef), .leaf (.undef), .leaf (.undef), .leaf (.undef), .leaf (.undef), .leaf (.undef), .leaf (.undef), .leaf (.undef), .leaf (.undef), .leaf (.undef), .leaf (.undef), .leaf (.undef), .leaf (.undef), .leaf (.undef), .leaf (.undef), .leaf (.undef), .leaf (.undef), .leaf (.undef), .leaf (.undef), .leaf (.undef), .leaf (.undef), .leaf (.undef), .leaf (.undef), .leaf (.undef), .leaf (.undef), .leaf (.undef), .leaf (.undef), .leaf (.undef), .leaf (.undef), .leaf (.undef), .leaf (.undef), .leaf (.undef), .leaf (.undef), .leaf (.undef), .leaf (.undef), .leaf (.undef), .leaf (.undef), .leaf (.undef), .leaf (.undef), .leaf (.undef), .leaf (.undef), .leaf (.undef), .leaf (.undef), .leaf (.undef), .leaf (.undef), .leaf (.undef), .leaf (.undef), .leaf (.undef), .leaf (.undef), .leaf (.undef), .leaf (.undef), .leaf (.undef), .leaf (.undef), .leaf (.undef), .leaf (.undef), .leaf (.undef), .leaf (.undef), .leaf (.undef), .leaf (.undef), .leaf (.undef), .leaf (.undef), .leaf (.undef), .leaf (.undef), .leaf (.undef), .leaf (.undef), .leaf (.undef), .leaf (.undef), .leaf (.undef), .leaf (.undef), .leaf (.undef), .leaf (.undef), .leaf (.undef), .leaf (.undef)]
abbrev law01_DecimalShort_10_0_q : List HPat := []
noncomputable def law01_DecimalShort_10_0_f (x : Pat.dens law01_DecimalShort_10_0_p) (y : HPat.dens law01_DecimalShort_10_0_q) : Nat := (List.length x.2.2.2.2.2.2.2.1 + Int.natAbs x.2.2.2.2.2.2.2.2.1 + Int.natAbs x.2.2.2.2.2.2.2.2.2.1 + 64)
noncomputable def law01_DecimalShort_10_0_d (x : Pat.dens law01_DecimalShort_10_0_p) (y : HPat.dens law01_DecimalShort_10_0_q) : law01_DecimalShort_10_0_D := (x.2.2.2.2.2.2.2.1, x.2.2.2.2.2.2.2.2.1, x.2.2.2.2.2.2.2.2.2.1)
noncomputable def law01_DecimalShort_10_0_rr {R : Type} (L : law01_DecimalShort_10_0_ty R) : Pat.dens law01_DecimalShort_10_0_p → HPat.dens law01_DecimalShort_10_0_q → (Ex → St → Option R) → Option R := fun x y K => L (law01_DecimalShort_10_0_f x y) x.2.2.2.2.2.2.2.1 x.2.2.2.2.2.2.2.2.1 x.2.2.2.2.2.2.2.2.2.1 (law01_DecimalShort_10_0_x0 K) (law01_DecimalShort_10_0_x1 K)
noncomputable def law01_DecimalShort_T (R : Type) (law01_DecimalShort_10_0_L : law01_DecimalShort_10_0_ty R) : Nat → Option (Hint × LSpec R) := fun i => match i with
  | 10 => some (law01_DecimalShort_10_0_h, (loopBy law01_DecimalShort_10_0_p law01_DecimalShort_10_0_q (law01_DecimalShort_10_0_rr law01_DecimalShort_10_0_L) loopNo))
  | _ => none

theorem law01_DecimalShort_10_0_B_ok {R : Type} (law01_awake : law01_awake_ty R) (law01_Fit : law01_Fit_ty R) (decimal_Print : decimal_Print_ty R) (law01_DecimalShort_10_0_L : law01_DecimalShort_10_0_ty R) (K : Ex → St → Option R) (rc : St → Option R) (d : law01_DecimalShort_10_0_D) : roundOf tt (law01_DecimalShort_E R law01_awake law01_Fit decimal_Print) (law01_DecimalShort_T R law01_DecimalShort_10_0_L) 0 ((loopsOf (codeOf Tryd.f13)).getD 0 .skip) law01_DecimalShort_10_0_h (law01_DecimalShort_10_0_enc d) rc K = law01_DecimalShort_10_0_s K (fun d => rc (law01_DecimalShort_10_0_enc d)) d := by kernel_rfl
theorem law01_DecimalShort_10_0_A_succ {R : Type} (K : Ex → St → Option R) (n : Nat) (d : law01_DecimalShort_10_0_D) : law01_DecimalShort_10_0_A K (n + 1) d = law01_DecimalShort_10_0_s K (law01_DecimalShort_10_0_A K n) d := by kernel_rfl
theorem law01_DecimalShort_10_0_A_zero {R : Type} (K : Ex → St → Option R) (d : law01_DecimalShort_10_0_D) : law01_DecimalShort_10_0_A K 0 d = none := by kernel_rfl
theorem law01_DecimalShort_10_0_e_ok (x : Pat.dens law01_DecimalShort_10_0_p) (y : HPat.dens law01_DecimalShort_10_0_q) : (⟨Pat.encL law01_DecimalShort_10_0_p x, HPat.encL law01_DecimalShort_10_0_q y⟩ : St) = law01_DecimalShort_10_0_enc (law01_DecimalShort_10_0_d x y) := by kernel_rfl
theorem law01_DecimalShort_10_0_r_ok {R : Type} (x : Pat.dens law01_DecimalShort_10_0_p) (y : HPat.dens law01_DecimalShort_10_0_q) (K : Ex → St → Option R) : law01_DecimalShort_10_0_rr (law01_DecimalShort_10_0_L) x y K = law01_DecimalShort_10_0_A K (law01_DecimalShort_10_0_f x y) (law01_DecimalShort_10_0_d x y) := by kernel_rfl
theorem law01_DecimalShort_10_0_ok {R : Type} (other : LSpec R) (ho : LsOk tt (law01_DecimalShort_E R law01_awake law01_Fit decimal_Print) (law01_DecimalShort_T R law01_DecimalShort_10_0_L) 0 ((loopsOf (codeOf Tryd.f13)).getD 0 .skip) law01_DecimalShort_10_0_h other) : LsOk tt (law01_DecimalShort_E R law01_awake law01_Fit decimal_Print) (law01_DecimalShort_T R law01_DecimalShort_10_0_L) 0 ((loopsOf (codeOf Tryd.f13)).getD 0 .skip) law01_DecimalShort_10_0_h (loopBy law01_DecimalShort_10_0_p law01_DecimalShort_10_0_q (law01_DecimalShort_10_0_rr (law01_DecimalShort_10_0_L)) other) :=
  loopBy_tie (A := law01_DecimalShort_10_0_A) ho (loop_tie law01_DecimalShort_10_0_enc (law01_DecimalShort_10_0_s) (law01_DecimalShort_10_0_A) (law01_DecimalShort_10_0_A_zero) (law01_DecimalShort_10_0_B_ok law01_awake law01_Fit decimal_Print law01_DecimalShort_10_0_L) (law01_DecimalShort_10_0_A_succ)) law01_DecimalShort_10_0_f law01_DecimalShort_10_0_d law01_DecimalShort_10_0_e_ok (law01_DecimalShort_10_0_r_ok)

noncomputable def law01_DecimalShort_X {R : Type} (law01_awake : law01_awake_ty R) (law01_Fit : law01_Fit_ty R) (decimal_Print : decimal_Print_ty R) (law01_DecimalShort_10_0_L : law01_DecimalShort_10_0_ty R) (x1 : Int) (x2 : Int) (k0 : Bool → Option R) : Option R :=
  law01_awake (fun y3 => law01_Fit x1 x2 (fun y4 => decimal_Print y4 (fun y5 => bif (!y3) then (k0 false) else (bif (y5 == ([] : Str)) then (k0 false) else (let j23 := fun (z7 : Str) => law01_DecimalShort_10_0_L (List.length z7 + Int.natAbs 0 + Int.natAbs 0 + 64) z7 0 0 (fun y14 y15 => bif (decide (y15 > (1 : Int))) then (k0 false) else (bif (y15 == 1) then (chk (decide ((0 : Int) ≤ (IntKind.i64.wrap ((y14.length : Int) - 1))) && decide ((IntKind.i64.wrap ((y14.length : Int) - 1)) < y14.length)) (bif (((y14.getD ((IntKind.i64.wrap ((y14.length : Int) - 1)).toNat) 0).toNat : Int) == 48) then (k0 false) else (bif ((y14.length : Int) == 0) then (k0 false) else (chk (decide ((0 : Int) < y14.length)) (bif (((y14.getD 0 0).toNat : Int) != 48) then (k0 true) else (bif ((y14.length : Int) == 1) then (k0 true) else (chk (decide ((1 : Int) < y14.length)) (k0 (((y14.getD 1 0).toNat : Int) == 46))))))))) else (bif ((y14.length : Int) == 0) then (k0 false) else (chk (decide ((0 : Int) < y14.length)) (bif (((y14.getD 0 0).toNat : Int) != 48) then (k0 true) else (bif ((y14.length : Int) == 1) then (k0 true) else (chk (decide ((1 : Int) < y14.length)) (k0 (((y14.getD 1 0).toNat : Int) == 46))))))))) (fun y16 y17 y18 => k0 y16); chk (decide ((0 : Int) < y5.length)) (bif (((y5.getD 0 0).toNat : Int) == 45) then (chk (decide ((0 : Int) ≤ (y5.length : Int)) && decide ((y5.length : Int) ≤ y5.length)) (chk (decide ((1 : Int) ≤ (y5.length : Int))) (j23 ((y5.drop 1).take ((y5.length : Int).toNat - 1))))) else (j23 y5)))))))
noncomputable def law01_DecimalShort {R : Type} : law01_DecimalShort_ty R := fun x1 x2 k0 => law01_DecimalShort_X law01_awake law01_Fit decimal_Print law01_DecimalShort_10_0_L x1 x2 k0
theorem law01_DecimalShort_ok {R : Type} (law01_awake : law01_awake_ty R) (law01_Fit : law01_Fit_ty R) (decimal_Print : decimal_Print_ty R) (law01_DecimalShort_10_0_L : law01_DecimalShort_10_0_ty R) (x1 : Int) (x2 : Int) (k : V → Heap → Option R) : funK tt (law01_DecimalShort_E R law01_awake law01_Fit decimal_Print) (law01_DecimalShort_T R law01_DecimalShort_10_0_L) false Tryd.f13 (codeOf Tryd.f13) [.int .i64 x1, .int .i64 x2] [] k =
    law01_DecimalShort_X law01_awake law01_Fit decimal_Print law01_DecimalShort_10_0_L x1 x2 (fun q0 => k (.bool q0) []) := by kernel_rfl
theorem law01_DecimalShort_loops (R : Type) : ∀ a ∈ loopsOf (codeOf Tryd.f13), LoopOk tt (law01_DecimalShort_E R law01_awake law01_Fit decimal_Print) (law01_DecimalShort_T R law01_DecimalShort_10_0_L) 0 a := by
  refine loops_ok 1 (by kernel_rfl) fun i hi => ?_
  match i, hi with
  | 0, _ => exact loopOk_some (by kernel_rfl) (law01_DecimalShort_10_0_ok _ loopNo_ok)
  | n + 1, hi => omega
theorem law01_DecimalShort_S_ok (R : Type) (other : Yard.Spec R) (ho : Yard.Spec.Ok Tryd.prog 13 other) : Yard.Spec.Ok Tryd.prog 13 (specBy law01_DecimalShort_p law01_DecimalShort_q (law01_DecimalShort_rr law01_DecimalShort) other) :=
  specBy_ok ho (funK_sound TT mixed (law01_DecimalShort_EOk R) (keep := false) rfl rfl rfl rfl 0 (law01_DecimalShort_loops R)) fun (x : Pat.dens law01_DecimalShort_p) (y : HPat.dens law01_DecimalShort_q) k => law01_DecimalShort_ok law01_awake law01_Fit decimal_Print law01_DecimalShort_10_0_L x.1 x.2.1 k

/-! ### humpyard/humpyardref01.Make -/
abbrev ref01_Make_ty (R : Type) : Type := Int → Int → (Dcm → Bool → Option R) → Option R
abbrev ref01_Make_p : List Pat := [.leaf (.int .i64), .leaf (.int .i64)]
abbrev ref01_Make_q : List HPat := []
noncomputable def ref01_Make_rr {R : Type} (fn : ref01_Make_ty R) : Pat.dens ref01_Make_p → HPat.dens ref01_Make_q → (V → Heap → Option R) → Option R := fun x y k => fn x.1 x.2.1 (fun q0 q1 => k (.tuple [.agg [.int .i64 q0.mant, .int .i64 q0.exp], .bool q1]) [])
abbrev ref01_Make_3_0_ty (R : Type) : Type := Nat → Int → Int → Dcm → (Int → Int → Dcm → Option R) → (Int → Int → Bool → Dcm → Option R) → Option R
noncomputable def ref01_Make_E (R : Type) : Env R := fun i => match i with
  | _ => none
theorem ref01_Make_EOk (R : Type) : EOk Tryd.prog (ref01_Make_E R) := by
  intro i b sp h
  unfold ref01_Make_E at h
  split at h
  · cases h

noncomputable def ref01_Make_3_0_B {R : Type} (rec' : Int → Int → Dcm → Option R) (x3 : Int) (x4 : Int) (x5 : Dcm) (e0 : Int → Int → Dcm → Option R) (e1 : Int → Int → Bool → Dcm → Option R) : Option R :=
  bif ((Int.tmod x3 10) == 0) then (bif (decide (x4 > (1099511627776 : Int))) then (e1 (IntKind.i64.wrap (Int.tdiv x3 10)) x4 false (⟨0, 0⟩ : Dcm)) else (rec' (IntKind.i64.wrap (Int.tdiv x3 10)) (IntKind.i64.wrap (x4 + 1)) x5)) else (e0 x3 x4 x5)
noncomputable def ref01_Make_3_0_L {R : Type} : ref01_Make_3_0_ty R
  | 0, _, _, _, _, _ => none
  | n + 1, x0', x1', x2', e0, e1 => ref01_Make_3_0_B (fun x0' x1' x2' => ref01_Make_3_0_L n x0' x1' x2' e0 e1) x0' x1' x2' e0 e1
noncomputable def ref01_Make_3_0_h : Hint := { live := [0, 1, 4], own := [], rows := [], cells := [], drop := [], out := [0, 1, 4, 5] }
abbrev ref01_Make_3_0_D : Type := Int × Int × Dcm
noncomputable def ref01_Make_3_0_enc : ref01_Make_3_0_D → St := fun d => ⟨[.int .i64 d.1, .int .i64 d.2.1, .undef, .undef, .ptr 0 0, .undef, .undef, .undef, .undef, .undef, .undef, .undef, .undef, .undef, .undef, .undef, .undef, .undef, .undef, .undef, .undef, .undef, .undef, .undef, .undef, .undef, .undef, .undef, .undef, .undef, .undef, .undef, .undef, .undef, .undef, .undef, .undef], [.cells [.int .i64 d.2.2.mant, .int .i64 d.2.2.exp]]⟩
noncomputable def ref01_Make_3_0_x0 {R : Type} (K : Ex → St → Option R) (q0 : Int) (q1 : Int) (q2 : Dcm) : Option R := K (.exit 0) ⟨[.int .i64 q0, .int .i64 q1, .undef, .undef, .ptr 0 0, .undef, .undef, .undef, .undef, .undef, .undef, .undef, .undef, .undef, .undef, .undef, .undef, .undef, .undef, .undef, .undef, .undef, .undef, .undef, .undef, .undef, .undef, .undef, .undef, .undef, .undef, .undef, .undef, .undef, .undef, .undef, .undef], [.cells [.int .i64 q2.mant, .int .i64 q2.exp]]⟩
noncomputable def ref01_Make_3_0_x1 {R : Type} (K : Ex → St → Option R) (q0 : Int) (q1 : Int) (q2 : Bool) (q3 : Dcm) : Option R := K (.ret) ⟨[.int .i64 q0, .int .i64 q1, .undef, .undef, .ptr 0 0, .bool q2, .undef, .undef, .undef, .undef, .undef, .undef, .undef, .undef, .undef, .undef, .undef, .undef, .undef, .undef, .undef, .undef, .undef, .undef, .undef, .undef, .undef, .undef, .undef, .undef, .undef, .undef, .undef, .undef, .undef, .undef, .undef], [.cells [.int .i64 q3.mant, .int .i64 q3.exp]]⟩
noncomputable def ref01_Make_3_0_s {R : Type} (K : Ex → St → Option R) (rc : ref01_Make_3_0_D → Option R) (d : ref01_Make_3_0_D) : Option R := ref01_Make_3_0_B (fun z0 z1 z2 => rc (z0, z1, z2)) d.1 d.2.1 d.2.2 (ref01_Make_3_0_x0 K) (ref01_Make_3_0_x1 K)
noncomputable def ref01_Make_3_0_A {R : Type} (K : Ex → St → Option R) (n : Nat) (d : ref01_Make_3_0_D) : Option R := ref01_Make_3_0_L n d.1 d.2.1 d.2.2 (ref01_Make_3_0_x0 K) (ref01_Make_3_0_x1 K)
abbrev ref01_Make_3_0_p : List Pat := [.leaf (.int .i64), .leaf (.int .i64), .leaf (.undef), .leaf (.undef), .leaf (.ptr 0 0), .leaf (.undef), .leaf (.undef), .leaf (.undef), .leaf (.undef), .leaf (.undef), .leaf (.undef), .leaf (.undef), .leaf (.undef), .leaf (.undef), .leaf (.undef), .leaf (.undef), .leaf (.undef), .leaf (.undef), .leaf (.undef), .leaf (.undef), .leaf (.undef), .leaf (.undef), .leaf (.undef), .leaf (.undef), .leaf (.undef), .leaf (.undef), .leaf (.undef), .leaf (.undef), .leaf (.undef), .leaf (.undef), .leaf (.undef), .leaf (.undef), .leaf (.undef), .leaf (.undef), .leaf (.undef), .leaf (.undef), .leaf (.undef)]
abbrev ref01_Make_3_0_q : List HPat := [.cells [.int .i64, .int .i64]]
noncomputable def ref01_Make_3_0_f (x : Pat.dens ref01_Make_3_0_p) (y : HPat.dens ref01_Make_3_0_q) : Nat := (Int.natAbs x.1 + Int.natAbs x.2.1 + Dcm.fu (⟨y.1.1, y.1.2.1⟩ : Dcm) + 64)
noncomputable def ref01_Make_3_0_d (x : Pat.dens ref01_Make_3_0_p) (y : HPat.dens ref01_Make_3_0_q) : ref01_Make_3_0_D := (x.1, x.2.1, (⟨y.1.1, y.1.2.1⟩ : Dcm))
noncomputable def ref01_Make_3_0_rr {R : Type} (L : ref01_Make_3_0_ty R) : Pat.dens ref01_Make_3_0_p → HPat.dens ref01_Make_3_0_q → (Ex → St → Option R) → Option R := fun x y K => L (ref01_Make_3_0_f x y) x.1 x.2.1 (⟨y.1.1, y.1.2.1⟩ : Dcm) (ref01_Make_3_0_x0 K) (ref01_Make_3_0_x1 K)
noncomputable def ref01_Make_T (R : Type) (ref01_Make_3_0_L : ref01_Make_3_0_ty R) : Nat → Option (Hint × LSpec R) := fun i => match i with
  | 3 => some (ref01_Make_3_0_h, (loopBy ref01_Make_3_0_p ref01_Make_3_0_q (ref01_Make_3_0_rr ref01_Make_3_0_L) loopNo))
  | _ => none

theorem ref01_Make_3_0_B_ok {R : Type} (ref01_Make_3_0_L : ref01_Make_3_0_ty R) (K : Ex → St → Option R) (rc : St → Option R) (d : ref01_Make_3_0_D) : roundOf tt (ref01_Make_E R) (ref01_Make_T R ref01_Make_3_0_L) 0 ((loopsOf (codeOf Tryd.f35)).getD 0 .skip) ref01_Make_3_0_h (ref01_Make_3_0_enc d) rc K = ref01_Make_3_0_s K (fun d => rc (ref01_Make_3_0_enc d)) d := by kernel_rfl
theorem ref01_Make_3_0_A_succ {R : Type} (K : Ex → St → Option R) (n : Nat) (d : ref01_Make_3_0_D) : ref01_Make_3_0_A K (n + 1) d = ref01_Make_3_0_s K (ref01_Make_3_0_A K n) d := by kernel_rfl
theorem ref01_Make_3_0_A_zero {R : Type} (K : Ex → St → Option R) (d : ref01_Make_3_0_D) : ref01_Make_3_0_A K 0 d = none := by kernel_rfl
theorem ref01_Make_3_0_e_ok (x : Pat.dens ref01_Make_3_0_p) (y : HPat.dens ref01_Make_3_0_q) : (⟨Pat.encL ref01_Make_3_0_p x, HPat.encL ref01_Make_3_0_q y⟩ : St) = ref01_Make_3_0_enc (ref01_Make_3_0_d x y) := by kernel_rfl
theorem ref01_Make_3_0_r_ok {R : Type} (x : Pat.dens ref01_Make_3_0_p) (y : HPat.dens ref01_Make_3_0_q) (K : Ex → St → Option R) : ref01_Make_3_0_rr (ref01_Make_3_0_L) x y K = ref01_Make_3_0_A K (ref01_Make_3_0_f x y) (ref01_Make_3_0_d x y) := by kernel_rfl
theorem ref01_Make_3_0_ok {R : Type} (other : LSpec R) (ho : LsOk tt (ref01_Make_E R) (ref01_Make_T R ref01_Make_3_0_L) 0 ((loopsOf (codeOf Tryd.f35)).getD 0 .skip) ref01_Make_3_0_h other) : LsOk tt (ref01_Make_E R) (ref01_Make_T R ref01_Make_3_0_L) 0 ((loopsOf (codeOf Tryd.f35)).getD 0 .skip) ref01_Make_3_0_h (loopBy ref01_Make_3_0_p ref01_Make_3_0_q (ref01_Make_3_0_rr (ref01_Make_3_0_L)) other) :=
  loopBy_tie (A := ref01_Make_3_0_A) ho (loop_tie ref01_Make_3_0_enc (ref01_Make_3_0_s) (ref01_Make_3_0_A) (ref01_Make_3_0_A_zero) (ref01_Make_3_0_B_ok ref01_Make_3_0_L) (ref01_Make_3_0_A_succ)) ref01_Make_3_0_f ref01_Make_3_0_d ref01_Make_3_0_e_ok (ref01_Make_3_0_r_ok)

noncomputable def ref01_Make_X {R : Type} (ref01_Make_3_0_L : ref01_Make_3_0_ty R) (x1 : Int) (x2 : Int) (k0 : Dcm → Bool → Option R) : Option R :=
  bif (x1 == 0) then (k0 (⟨0, 0⟩ : Dcm) true) else (ref01_Make_3_0_L (Int.natAbs x1 + Int.natAbs x2 + Dcm.fu (⟨0, 0⟩ : Dcm) + 64) x1 x2 (⟨0, 0⟩ : Dcm) (fun y6 y7 y8 => bif (decide (y6 > (1000000000000000 : Int))) then (k0 (⟨0, 0⟩ : Dcm) false) else (bif (decide (y6 < (-1000000000000000 : Int))) then (k0 (⟨0, 0⟩ : Dcm) false) else (bif (decide (y7 > (9 : Int))) then (k0 (⟨0, 0⟩ : Dcm) false) else (bif (decide (y7 < (-9 : Int))) then (k0 (⟨0, 0⟩ : Dcm) false) else (k0 (⟨y6, y7⟩ : Dcm) true))))) (fun y9 y10 y11 y12 => k0 y12 y11))
noncomputable def ref01_Make {R : Type} : ref01_Make_ty R := fun x1 x2 k0 => ref01_Make_X ref01_Make_3_0_L x1 x2 k0
theorem ref01_Make_ok {R : Type} (ref01_Make_3_0_L : ref01_Make_3_0_ty R) (x1 : Int) (x2 : Int) (k : V → Heap → Option R) : funK tt (ref01_Make_E R) (ref01_Make_T R ref01_Make_3_0_L) false Tryd.f35 (codeOf Tryd.f35) [.int .i64 x1, .int .i64 x2] [] k =
    ref01_Make_X ref01_Make_3_0_L x1 x2 (fun q0 q1 => k (.tuple [.agg [.int .i64 q0.mant, .int .i64 q0.exp], .bool q1]) []) := by kernel_rfl
theorem ref01_Make_loops (R : Type) : ∀ a ∈ loopsOf (codeOf Tryd.f35), LoopOk tt (ref01_Make_E R) (ref01_Make_T R ref01_Make_3_0_L) 0 a := by
  refine loops_ok 1 (by kernel_rfl) fun i hi => ?_
  match i, hi with
  | 0, _ => exact loopOk_some (by kernel_rfl) (ref01_Make_3_0_ok _ loopNo_ok)
  | n + 1, hi => omega
theorem ref01_Make_S_ok (R : Type) (other : Yard.Spec R) (ho : Yard.Spec.Ok Tryd.prog 35 other) : Yard.Spec.Ok Tryd.prog 35 (specBy ref01_Make_p ref01_Make_q (ref01_Make_rr ref01_Make) other) :=
  specBy_ok ho (funK_sound TT mixed (ref01_Make_EOk R) (keep := false) rfl rfl rfl rfl 0 (ref01_Make_loops R)) fun (x : Pat.dens ref01_Make_p) (y : HPat.dens ref01_Make_q) k => ref01_Make_ok ref01_Make_3_0_L x.1 x.2.1 k

end Go.Proofs.YtifgegmnngfckaaDoor

/-
  Decimals: Make's loop, and the one form of a number; DecimalMoves. Own work.
-/
set_option linter.unusedVariables false
set_option maxRecDepth 100000
namespace Go.Proofs.YtifgegmnngfckaaDoor
open Go Go.Yard

theorem pick01 {R : Type} (c n : Int) (hc : I64 c) (h0 : 0 < n) (hn : n ≤ 9223372036854775807) : ∃ r : Int, 0 ≤ r ∧ r < n ∧ ∀ k : Int → Option R, law01_pick c n k = k r := pick_raw c n hc h0 hn

/-- A number and its noughts. -/
theorem strip_ex : ∀ (b : Nat) (m : Int), m ≠ 0 → m.natAbs < b → ∃ (j : Nat) (u : Int), m = u * 10 ^ j ∧ Int.tmod u 10 ≠ 0
  | 0, m, _, h => by omega
  | b + 1, m, h0, hb => by
    by_cases h : Int.tmod m 10 = 0
    · have hd : m = Int.tdiv m 10 * 10 := by have := Int.tmod_add_mul_tdiv m 10; omega
      have hn : (Int.tdiv m 10).natAbs < m.natAbs := by rw [Int.natAbs_tdiv]; show m.natAbs / 10 < m.natAbs; omega
      obtain ⟨j, u, e, hu⟩ := strip_ex b (Int.tdiv m 10) (by omega) (by omega)
      refine ⟨j + 1, u, ?_, hu⟩
      rw [Int.pow_succ, ← Int.mul_assoc, ← e]
      exact hd
    · exact ⟨0, m, by simp, h⟩

theorem strip_one : ∀ (i j : Nat) (u v : Int), Int.tmod u 10 ≠ 0 → Int.tmod v 10 ≠ 0 → u * 10 ^ i = v * 10 ^ j → i = j ∧ u = v
  | 0, 0, u, v, _, _, h => ⟨rfl, by simpa using h⟩
  | 0, j + 1, u, v, hu, _, h => by
    exfalso
    apply hu
    have : u = (v * 10 ^ j) * 10 := by rw [Int.pow_succ, ← Int.mul_assoc] at h; simpa using h
    rw [this]
    exact Int.mul_tmod_left _ _
  | i + 1, 0, u, v, _, hv, h => by
    exfalso
    apply hv
    have : v = (u * 10 ^ i) * 10 := by rw [Int.pow_succ, ← Int.mul_assoc] at h; simpa using h.symm
    rw [this]
    exact Int.mul_tmod_left _ _
  | i + 1, j + 1, u, v, hu, hv, h => by
    have h2 : u * 10 ^ i = v * 10 ^ j := by
      rw [Int.pow_succ, Int.pow_succ, ← Int.mul_assoc, ← Int.mul_assoc] at h
      omega
    obtain ⟨h3, h4⟩ := strip_one i j u v hu hv h2
    exact ⟨by omega, h4⟩

theorem pow_pos10 (j : Nat) : (1 : Int) ≤ 10 ^ j := by
  induction j with
  | zero => simp
  | succ j ih => rw [Int.pow_succ]; omega

theorem abs_le_mul (u : Int) (j : Nat) : u.natAbs ≤ (u * 10 ^ j).natAbs := by
  rw [Int.natAbs_mul]
  have h := pow_pos10 j
  have : 1 ≤ ((10 : Int) ^ j).natAbs := by omega
  exact Nat.le_mul_of_pos_right _ this

/-- So many noughts go into a number. -/
theorem noughts_le (u : Int) (hu : u ≠ 0) : ∀ j : Nat, j ≤ (u * 10 ^ j).natAbs := by
  intro j
  rw [Int.natAbs_mul]
  have h1 : 1 ≤ u.natAbs := by omega
  have h2 : j ≤ ((10 : Int) ^ j).natAbs := by
    induction j with
    | zero => simp
    | succ j ih =>
      have := pow_pos10 j
      rw [Int.pow_succ, Int.natAbs_mul]
      show j + 1 ≤ ((10 : Int) ^ j).natAbs * 10
      omega
  calc j ≤ ((10 : Int) ^ j).natAbs := h2
    _ ≤ u.natAbs * ((10 : Int) ^ j).natAbs := Nat.le_mul_of_pos_left _ h1

theorem noughts_pow (u : Int) (hu : u ≠ 0) (j : Nat) : 2 ^ j ≤ (u * 10 ^ j).natAbs := by
  rw [Int.natAbs_mul]
  have h2 : ∀ j : Nat, 2 ^ j ≤ ((10 : Int) ^ j).natAbs := by
    intro j
    induction j with
    | zero => simp
    | succ j ih =>
      rw [Int.pow_succ, Int.natAbs_mul, Nat.pow_succ]
      show 2 ^ j * 2 ≤ ((10 : Int) ^ j).natAbs * 10
      omega
  exact Nat.le_trans (h2 j) (Nat.le_mul_of_pos_left _ (by omega))

theorem noughts_64 {u : Int} (hu : u ≠ 0) {j : Nat} (hb : I64 (u * 10 ^ j)) : j < 64 := by
  have h := noughts_pow u hu j
  unfold I64 at hb
  rcases Nat.lt_or_ge j 64 with h1 | h1
  · exact h1
  · have h2 : (2 : Nat) ^ 64 ≤ 2 ^ j := Nat.pow_le_pow_right (by omega) h1
    have h3 : (2 : Nat) ^ 64 = 18446744073709551616 := rfl
    omega

theorem make_loop {R : Type} (d : Dcm) (e0 : Int → Int → Dcm → Option R) : ∀ (j n : Nat) (u x : Int), j < n → Int.tmod u 10 ≠ 0 → I64 (u * 10 ^ j) → -4000000000000000000 ≤ x → x + j ≤ 4000000000000000000 →
    decimal_Make_4_0_L n (u * 10 ^ j) x d e0 = e0 u (x + j) d := by
  intro j
  induction j with
  | zero =>
    intro n u x hn hu hb h1 h2
    obtain ⟨m, rfl⟩ : ∃ m, n = m + 1 := ⟨n - 1, by omega⟩
    have e : decimal_Make_4_0_L (m + 1) (u * 10 ^ 0) x d e0 = decimal_Make_4_0_B (fun x0' x1' x2' => decimal_Make_4_0_L m x0' x1' x2' e0) (u * 10 ^ 0) x d e0 := rfl
    rw [e]
    unfold decimal_Make_4_0_B
    have e1 : u * 10 ^ 0 = u := by simp
    have e2 : (Int.tmod u 10 == 0) = false := by rw [beq_eq_false_iff_ne]; exact hu
    rw [e1, e2, cond_false]
    simp
  | succ j ih =>
    intro n u x hn hu hb h1 h2
    obtain ⟨m, rfl⟩ : ∃ m, n = m + 1 := ⟨n - 1, by omega⟩
    have e : decimal_Make_4_0_L (m + 1) (u * 10 ^ (j + 1)) x d e0 = decimal_Make_4_0_B (fun x0' x1' x2' => decimal_Make_4_0_L m x0' x1' x2' e0) (u * 10 ^ (j + 1)) x d e0 := rfl
    rw [e]
    unfold decimal_Make_4_0_B
    have ep : u * 10 ^ (j + 1) = u * 10 ^ j * 10 := by rw [Int.pow_succ, Int.mul_assoc]
    unfold I64 at hb
    rw [ep] at hb ⊢
    have e1 : (Int.tmod (u * 10 ^ j * 10) 10 == 0) = true := by rw [Int.mul_tmod_left]; rfl
    have e2 : Int.tdiv (u * 10 ^ j * 10) 10 = u * 10 ^ j := Int.mul_tdiv_cancel _ (by omega)
    rw [e1, cond_true, e2, wrap_id (n := u * 10 ^ j) (by omega) (by omega), wrap_id (n := x + 1) (by omega) (by omega)]
    show decimal_Make_4_0_L m (u * 10 ^ j) (x + 1) d e0 = _
    rw [ih m u (x + 1) (by omega) hu (by unfold I64; omega) (by omega) (by omega)]
    have : x + 1 + (j : Int) = x + ((j + 1 : Nat) : Int) := by omega
    rw [this]

theorem within_ok {R : Type} (a b c : Int) (k : Bool → Option R) : decimal_within_int a b c k = k (decide (a ≤ b) && decide (b ≤ c)) := by
  have e : decimal_within_int a b c k = decimal_within_int_X a b c k := rfl
  rw [e]
  unfold decimal_within_int_X
  by_cases h1 : a ≤ b
  · rw [dtrue h1]; first | rfl | simp
  · rw [dfalse h1]; first | rfl | simp

/-- What Make answers for a number with its noughts. -/
def mkD (u x : Int) : Dcm × Bool := if -1000000000000000 ≤ u ∧ u ≤ 1000000000000000 ∧ -9 ≤ x ∧ x ≤ 9 then (⟨u, x⟩, true) else (⟨0, 0⟩, false)

theorem make_ok {R : Type} (u : Int) (j : Nat) (x : Int) (hu : Int.tmod u 10 ≠ 0) (hb : I64 (u * 10 ^ j)) (h1 : -4000000000000000000 ≤ x) (h2 : x ≤ 1000000) (k : Dcm → Bool → Option R) :
    decimal_Make (u * 10 ^ j) x k = k (mkD u (x + j)).1 (mkD u (x + j)).2 := by
  have e : decimal_Make (u * 10 ^ j) x k = decimal_Make_X decimal_within_int decimal_Make_4_0_L (u * 10 ^ j) x k := rfl
  rw [e]
  unfold decimal_Make_X
  have hu0 : u ≠ 0 := by rintro rfl; exact hu rfl
  have ha := abs_le_mul u j
  have hn := noughts_le u hu0 j
  have h64 := noughts_64 hu0 hb
  have h0 : (u * 10 ^ j == 0) = false := by rw [beq_eq_false_iff_ne]; omega
  have hm : min x 1000000 = x := Int.min_eq_left h2
  unfold I64 at hb
  rw [h0, cond_false, hm, make_loop _ _ j _ u x (by omega) hu (by unfold I64; exact hb) h1 (by omega)]
  rw [within_ok]
  unfold mkD
  by_cases c1 : -1000000000000000 ≤ u ∧ u ≤ 1000000000000000
  · rw [dtrue c1.1, dtrue c1.2]
    simp only [Bool.and_self, Bool.not_true, cond_false]
    rw [within_ok]
    by_cases c2 : -9 ≤ x + (j : Int) ∧ x + (j : Int) ≤ 9
    · rw [dtrue c2.1, dtrue c2.2, if_pos ⟨c1.1, c1.2, c2.1, c2.2⟩]
      rfl
    · rw [if_neg (fun h => c2 h.2.2)]
      have : (decide (-9 ≤ x + (j : Int)) && decide (x + (j : Int) ≤ 9)) = false := by
        rw [Bool.and_eq_false_iff, decide_eq_false_iff_not, decide_eq_false_iff_not]; omega
      rw [this]
      rfl
  · rw [if_neg (fun h => c1 ⟨h.1, h.2.1⟩)]
    have : (decide (-1000000000000000 ≤ u) && decide (u ≤ 1000000000000000)) = false := by
      rw [Bool.and_eq_false_iff, decide_eq_false_iff_not, decide_eq_false_iff_not]; omega
    rw [this]
    rfl

theorem make_zero {R : Type} (x : Int) (k : Dcm → Bool → Option R) : decimal_Make 0 x k = k ⟨0, 0⟩ true := by
  have e : decimal_Make 0 x k = decimal_Make_X decimal_within_int decimal_Make_4_0_L 0 x k := rfl
  rw [e]
  rfl

theorem right_mk {R : Type} {u x : Int} (hu : Int.tmod u 10 ≠ 0) (h : -1000000000000000 ≤ u ∧ u ≤ 1000000000000000 ∧ -9 ≤ x ∧ x ≤ 9) (k : Bool → Option R) : decimal_Right ⟨u, x⟩ k = k true := by
  have e : decimal_Right ⟨u, x⟩ k = decimal_Right_X decimal_within_int ⟨u, x⟩ k := rfl
  rw [e]
  unfold decimal_Right_X
  have hu0 : u ≠ 0 := by rintro rfl; exact hu rfl
  have e1 : (u == 0) = false := by rw [beq_eq_false_iff_ne]; exact hu0
  have e2 : (Int.tmod u 10 != 0) = true := bne_iff_ne.2 hu
  simp only [e1, e2, cond_false, cond_true, within_ok]
  rw [dtrue h.1, dtrue h.2.1, dtrue h.2.2.1, dtrue h.2.2.2]
  rfl

/-! ### DecimalMoves -/
theorem moves_loop {R : Type} {nr : Int} {p : Int} (p0 : 0 ≤ p) (p1 : p < 4) (hp : ∀ k : Int → Option R, law01_pick nr 4 k = k p) (y : Bool) (ex : Int) (ok : Bool) (d : Dcm) (m : Int) (hm : -1000000000000 ≤ m ∧ m ≤ 1000000000000)
    (e0 : Int → Bool → Int → Bool → Int → Dcm → Option R) : ∀ (n i : Nat), (i : Int) ≤ p → p.toNat - i < n →
    law01_DecimalMoves_7_0_L n nr y ex ok (m * 10 ^ i) (i : Int) d e0 = e0 nr y ex ok (m * 10 ^ p.toNat) d := by
  intro n
  induction n with
  | zero => intro i h1 h2; omega
  | succ n ih =>
    intro i h1 h2
    have e : law01_DecimalMoves_7_0_L (n + 1) nr y ex ok (m * 10 ^ i) (i : Int) d e0 = law01_DecimalMoves_7_0_B law01_pick (fun x0' x1' x2' x3' x4' x5' x6' => law01_DecimalMoves_7_0_L n x0' x1' x2' x3' x4' x5' x6' e0) nr y ex ok (m * 10 ^ i) (i : Int) d e0 := rfl
    rw [e]
    unfold law01_DecimalMoves_7_0_B
    rw [hp]
    by_cases hi : (i : Int) < p
    · rw [dtrue hi, cond_true]
      have hb : (m * 10 ^ i).natAbs ≤ 1000000000000000 := by
        have h3 : i = 0 ∨ i = 1 ∨ i = 2 := by omega
        rcases h3 with rfl | rfl | rfl <;> simp <;> omega
      have e1 : 10 * (m * 10 ^ i) = m * 10 ^ (i + 1) := by rw [Int.pow_succ, Int.mul_comm 10, Int.mul_assoc]
      rw [wrap_id (n := 10 * (m * 10 ^ i)) (by omega) (by omega), wrap_id (n := (i : Int) + 1) (by omega) (by omega), e1]
      exact ih (i + 1) (by omega) (by omega)
    · rw [dfalse hi, cond_false]
      have : i = p.toNat := by omega
      rw [this]

theorem decimalMoves_true {R : Type} (mant ex nr : Int) (hm : Small 1048576 (.int .i64 mant)) (he : Small 1048576 (.int .i64 ex)) (hn : Small 1048576 (.int .i64 nr)) (k : Bool → Option R) : law01_DecimalMoves mant ex nr k = k true := by
  have e : law01_DecimalMoves mant ex nr k = law01_DecimalMoves_X law01_awake decimal_Right law01_pick decimal_Make law01_DecimalMoves_7_0_L mant ex nr k := rfl
  rw [e]
  unfold law01_DecimalMoves_X
  rw [awake01]
  obtain ⟨a, a0, a1, ha⟩ := pick01 (R := R) mant 2000000000001 (i64_has.1 hm.int_inv) (by omega) (by omega)
  obtain ⟨b, b0, b1, hb⟩ := pick01 (R := R) ex 30 (i64_has.1 he.int_inv) (by omega) (by omega)
  obtain ⟨p, p0, p1, hp⟩ := pick01 (R := R) nr 4 (i64_has.1 hn.int_inv) (by omega) (by omega)
  rw [ha, hb, wrap_id (n := a - 1000000000000) (by omega) (by omega), wrap_id (n := b - 15) (by omega) (by omega)]
  generalize hM : a - 1000000000000 = m
  generalize hE : b - 15 = x
  have loop : ∀ (F : Nat) (ok : Bool) (d : Dcm) (e0 : Int → Bool → Int → Bool → Int → Dcm → Option R), 4 ≤ F → law01_DecimalMoves_7_0_L F nr true x ok m 0 d e0 = e0 nr true x ok (m * 10 ^ p.toNat) d := by
    intro F ok d e0 hF
    have := moves_loop p0 p1 hp true x ok d m ⟨by omega, by omega⟩ e0 F 0 (by omega) (by omega)
    simpa using this
  have hpn : (p.toNat : Int) = p := by omega
  by_cases h0 : m = 0
  · subst h0
    rw [make_zero, loop _ _ _ _ (by omega), hp, Int.zero_mul, make_zero]
    rfl
  · obtain ⟨j, u, hu, hd⟩ := strip_ex (m.natAbs + 1) m h0 (by omega)
    have hb2 : (m * 10 ^ p.toNat).natAbs ≤ 1000000000000000 := by
      have h3 : p.toNat = 0 ∨ p.toNat = 1 ∨ p.toNat = 2 ∨ p.toNat = 3 := by omega
      rcases h3 with h | h | h | h <;> rw [h] <;> simp <;> omega
    have h1 : ∀ k' : Dcm → Bool → Option R, decimal_Make m x k' = k' (mkD u (x + j)).1 (mkD u (x + j)).2 := fun k' => by
      rw [hu]; exact make_ok u j x hd (by rw [← hu]; unfold I64; omega) (by omega) (by omega) k'
    have e2 : m * 10 ^ p.toNat = u * 10 ^ (j + p.toNat) := by rw [hu, Int.pow_add, Int.mul_assoc]
    have h2 : ∀ k' : Dcm → Bool → Option R, decimal_Make (m * 10 ^ p.toNat) (x - p) k' = k' (mkD u (x + j)).1 (mkD u (x + j)).2 := fun k' => by
      rw [e2, make_ok u (j + p.toNat) (x - p) hd (by rw [← e2]; unfold I64; omega) (by omega) (by omega) k']
      have : x - p + ((j + p.toNat : Nat) : Int) = x + (j : Int) := by omega
      rw [this]
    rw [h1, loop _ _ _ _ (by omega), hp, wrap_id (n := x - p) (by omega) (by omega), h2]
    unfold mkD
    by_cases hc : -1000000000000000 ≤ u ∧ u ≤ 1000000000000000 ∧ -9 ≤ x + (j : Int) ∧ x + (j : Int) ≤ 9
    · rw [if_pos hc]
      simp only [BEq.rfl, cond_true, Bool.and_self, Bool.not_true, cond_false]
      exact right_mk hd hc k
    · rw [if_neg hc]
      rfl
end Go.Proofs.YtifgegmnngfckaaDoor

/-
  Functions of the program as pure Lean functions, and the ties; printed by wip/tools/emit.py.
-/
set_option maxRecDepth 100000
set_option linter.unusedVariables false
namespace Go.Proofs.YtifgegmnngfckaaDoor
open Go Go.Yard

/-! ### humpyard/decimal.Add -/
abbrev decimal_Add_ty (R : Type) : Type := Dcm → Dcm → (Dcm → Bool → Option R) → Option R
abbrev decimal_Add_p : List Pat := [.agg [.int .i64, .int .i64], .agg [.int .i64, .int .i64]]
abbrev decimal_Add_q : List HPat := []
noncomputable def decimal_Add_rr {R : Type} (fn : decimal_Add_ty R) : Pat.dens decimal_Add_p → HPat.dens decimal_Add_q → (V → Heap → Option R) → Option R := fun x y k => fn (⟨x.1.1, x.1.2.1⟩ : Dcm) (⟨x.2.1.1, x.2.1.2.1⟩ : Dcm) (fun q0 q1 => k (.tuple [.agg [.int .i64 q0.mant, .int .i64 q0.exp], .bool q1]) [])
noncomputable def decimal_Add_E (R : Type) (decimal_Right : decimal_Right_ty R) (decimal_Make : decimal_Make_ty R) (decimal_shifted : decimal_shifted_ty R) : Env R := fun i => match i with
  | 30 => some (true, (specBy decimal_Right_p decimal_Right_q (decimal_Right_rr decimal_Right) specNo))
  | 32 => some (true, (specBy decimal_Make_p decimal_Make_q (decimal_Make_rr decimal_Make) specNo))
  | 68 => some (true, (specBy decimal_shifted_p decimal_shifted_q (decimal_shifted_rr decimal_shifted) specNo))
  | _ => none
theorem decimal_Add_EOk (R : Type) : EOk Tryd.prog (decimal_Add_E R decimal_Right decimal_Make decimal_shifted) := by
  intro i b sp h
  unfold decimal_Add_E at h
  split at h
  · cases h; exact ⟨(decimal_Right_S_ok R _ (specNo_ok _)), fun h => nomatch h⟩
  · cases h; exact ⟨(decimal_Make_S_ok R _ (specNo_ok _)), fun h => nomatch h⟩
  · cases h; exact ⟨(decimal_shifted_S_ok R _ (specNo_ok _)), fun h => nomatch h⟩
  · cases h

noncomputable def decimal_Add_T (R : Type) : Nat → Option (Hint × LSpec R) := fun i => match i with
  | _ => none

noncomputable def decimal_Add_X {R : Type} (decimal_Right : decimal_Right_ty R) (decimal_Make : decimal_Make_ty R) (decimal_shifted : decimal_shifted_ty R) (x1 : Dcm) (x2 : Dcm) (k0 : Dcm → Bool → Option R) : Option R :=
  decimal_Right x1 (fun y3 => bif (!y3) then (k0 (⟨0, 0⟩ : Dcm) false) else (decimal_Right x2 (fun y4 => bif (!y4) then (k0 (⟨0, 0⟩ : Dcm) false) else (bif (x1.mant == 0) then (k0 (⟨(IntKind.i64.wrap (x1.mant + x2.mant)), (IntKind.i64.wrap (x1.exp + x2.exp))⟩ : Dcm) true) else (bif (x2.mant == 0) then (k0 (⟨(IntKind.i64.wrap (x1.mant + x2.mant)), (IntKind.i64.wrap (x1.exp + x2.exp))⟩ : Dcm) true) else (decimal_shifted x1 (min x1.exp x2.exp) (fun y7 y8 => decimal_shifted x2 (min x1.exp x2.exp) (fun y9 y10 => bif (!y8) then (k0 (⟨0, 0⟩ : Dcm) false) else (bif (!y10) then (k0 (⟨0, 0⟩ : Dcm) false) else (decimal_Make (IntKind.i64.wrap (y7 + y9)) (min x1.exp x2.exp) (fun y12 y13 => k0 y12 y13)))))))))))
noncomputable def decimal_Add {R : Type} : decimal_Add_ty R := fun x1 x2 k0 => decimal_Add_X decimal_Right decimal_Make decimal_shifted x1 x2 k0
theorem decimal_Add_ok {R : Type} (decimal_Right : decimal_Right_ty R) (decimal_Make : decimal_Make_ty R) (decimal_shifted : decimal_shifted_ty R) (x1 : Dcm) (x2 : Dcm) (k : V → Heap → Option R) : funK tt (decimal_Add_E R decimal_Right decimal_Make decimal_shifted) (decimal_Add_T R) false Tryd.f37 (codeOf Tryd.f37) [.agg [.int .i64 x1.mant, .int .i64 x1.exp], .agg [.int .i64 x2.mant, .int .i64 x2.exp]] [] k =
    decimal_Add_X decimal_Right decimal_Make decimal_shifted x1 x2 (fun q0 q1 => k (.tuple [.agg [.int .i64 q0.mant, .int .i64 q0.exp], .bool q1]) []) := by kernel_rfl
theorem decimal_Add_loops (R : Type) : ∀ a ∈ loopsOf (codeOf Tryd.f37), LoopOk tt (decimal_Add_E R decimal_Right decimal_Make decimal_shifted) (decimal_Add_T R) 0 a := by
  refine loops_ok 0 (by kernel_rfl) fun i hi => ?_
  omega
theorem decimal_Add_S_ok (R : Type) (other : Yard.Spec R) (ho : Yard.Spec.Ok Tryd.prog 37 other) : Yard.Spec.Ok Tryd.prog 37 (specBy decimal_Add_p decimal_Add_q (decimal_Add_rr decimal_Add) other) :=
  specBy_ok ho (funK_sound TT mixed (decimal_Add_EOk R) (keep := false) rfl rfl rfl rfl 0 (decimal_Add_loops R)) fun (x : Pat.dens decimal_Add_p) (y : HPat.dens decimal_Add_q) k => decimal_Add_ok decimal_Right decimal_Make decimal_shifted (⟨x.1.1, x.1.2.1⟩ : Dcm) (⟨x.2.1.1, x.2.1.2.1⟩ : Dcm) k

/-! ### humpyard/humpyardref01.Right -/
abbrev ref01_Right_ty (R : Type) : Type := Dcm → (Bool → Option R) → Option R
abbrev ref01_Right_p : List Pat := [.agg [.int .i64, .int .i64]]
abbrev ref01_Right_q : List HPat := []
noncomputable def ref01_Right_rr {R : Type} (fn : ref01_Right_ty R) : Pat.dens ref01_Right_p → HPat.dens ref01_Right_q → (V → Heap → Option R) → Option R := fun x y k => fn (⟨x.1.1, x.1.2.1⟩ : Dcm) (fun q0 => k (.bool q0) [])
noncomputable def ref01_Right_E (R : Type) (ref01_Make : ref01_Make_ty R) : Env R := fun i => match i with
  | 35 => some (true, (specBy ref01_Make_p ref01_Make_q (ref01_Make_rr ref01_Make) specNo))
  | _ => none
theorem ref01_Right_EOk (R : Type) : EOk Tryd.prog (ref01_Right_E R ref01_Make) := by
  intro i b sp h
  unfold ref01_Right_E at h
  split at h
  · cases h; exact ⟨(ref01_Make_S_ok R _ (specNo_ok _)), fun h => nomatch h⟩
  · cases h

noncomputable def ref01_Right_T (R : Type) : Nat → Option (Hint × LSpec R) := fun i => match i with
  | _ => none

noncomputable def ref01_Right_X {R : Type} (ref01_Make : ref01_Make_ty R) (x1 : Dcm) (k0 : Bool → Option R) : Option R :=
  ref01_Make x1.mant x1.exp (fun y2 y3 => bif y3 then (k0 (y2.mant == x1.mant && (y2.exp == x1.exp && true))) else (k0 false))
noncomputable def ref01_Right {R : Type} : ref01_Right_ty R := fun x1 k0 => ref01_Right_X ref01_Make x1 k0
theorem ref01_Right_ok {R : Type} (ref01_Make : ref01_Make_ty R) (x1 : Dcm) (k : V → Heap → Option R) : funK tt (ref01_Right_E R ref01_Make) (ref01_Right_T R) false Tryd.f41 (codeOf Tryd.f41) [.agg [.int .i64 x1.mant, .int .i64 x1.exp]] [] k =
    ref01_Right_X ref01_Make x1 (fun q0 => k (.bool q0) []) := by kernel_rfl
theorem ref01_Right_loops (R : Type) : ∀ a ∈ loopsOf (codeOf Tryd.f41), LoopOk tt (ref01_Right_E R ref01_Make) (ref01_Right_T R) 0 a := by
  refine loops_ok 0 (by kernel_rfl) fun i hi => ?_
  omega
theorem ref01_Right_S_ok (R : Type) (other : Yard.Spec R) (ho : Yard.Spec.Ok Tryd.prog 41 other) : Yard.Spec.Ok Tryd.prog 41 (specBy ref01_Right_p ref01_Right_q (ref01_Right_rr ref01_Right) other) :=
  specBy_ok ho (funK_sound TT mixed (ref01_Right_EOk R) (keep := false) rfl rfl rfl rfl 0 (ref01_Right_loops R)) fun (x : Pat.dens ref01_Right_p) (y : HPat.dens ref01_Right_q) k => ref01_Right_ok ref01_Make (⟨x.1.1, x.1.2.1⟩ : Dcm) k

/-! ### humpyard/humpyardref01.Add -/
abbrev ref01_Add_ty (R : Type) : Type := Dcm → Dcm → (Dcm → Bool → Option R) → Option R
abbrev ref01_Add_p : List Pat := [.agg [.int .i64, .int .i64], .agg [.int .i64, .int .i64]]
abbrev ref01_Add_q : List HPat := []
noncomputable def ref01_Add_rr {R : Type} (fn : ref01_Add_ty R) : Pat.dens ref01_Add_p → HPat.dens ref01_Add_q → (V → Heap → Option R) → Option R := fun x y k => fn (⟨x.1.1, x.1.2.1⟩ : Dcm) (⟨x.2.1.1, x.2.1.2.1⟩ : Dcm) (fun q0 q1 => k (.tuple [.agg [.int .i64 q0.mant, .int .i64 q0.exp], .bool q1]) [])
abbrev ref01_Add_13_0_ty (R : Type) : Type := Nat → Int → Int → Int → Int → Dcm → Dcm → Dcm → (Int → Int → Int → Dcm → Dcm → Option R) → (Bool → Int → Int → Int → Dcm → Dcm → Option R) → Option R
abbrev ref01_Add_19_0_ty (R : Type) : Type := Nat → Int → Int → Int → Int → Dcm → Dcm → (Int → Int → Int → Dcm → Option R) → (Bool → Int → Int → Int → Dcm → Option R) → Option R
noncomputable def ref01_Add_E (R : Type) (ref01_Make : ref01_Make_ty R) (ref01_Right : ref01_Right_ty R) : Env R := fun i => match i with
  | 35 => some (true, (specBy ref01_Make_p ref01_Make_q (ref01_Make_rr ref01_Make) specNo))
  | 41 => some (true, (specBy ref01_Right_p ref01_Right_q (ref01_Right_rr ref01_Right) specNo))
  | _ => none
theorem ref01_Add_EOk (R : Type) : EOk Tryd.prog (ref01_Add_E R ref01_Make ref01_Right) := by
  intro i b sp h
  unfold ref01_Add_E at h
  split at h
  · cases h; exact ⟨(ref01_Make_S_ok R _ (specNo_ok _)), fun h => nomatch h⟩
  · cases h; exact ⟨(ref01_Right_S_ok R _ (specNo_ok _)), fun h => nomatch h⟩
  · cases h

noncomputable def ref01_Add_13_0_B {R : Type} (rec' : Int → Int → Int → Int → Dcm → Dcm → Dcm → Option R) (x6 : Int) (x7 : Int) (x8 : Int) (x9 : Int) (x10 : Dcm) (x11 : Dcm) (x12 : Dcm) (e0 : Int → Int → Int → Dcm → Dcm → Option R) (e1 : Bool → Int → Int → Int → Dcm → Dcm → Option R) : Option R :=
  bif (decide (x9 < x10.exp)) then (bif (decide (x7 > (288230376151711744 : Int))) then (e1 false x6 x7 x8 x11 (⟨0, 0⟩ : Dcm)) else (bif (decide (x7 < (-288230376151711744 : Int))) then (e1 false x6 x7 x8 x11 (⟨0, 0⟩ : Dcm)) else (rec' x6 (IntKind.i64.wrap (10 * x7)) x8 (IntKind.i64.wrap (x9 + 1)) x10 x11 x12))) else (e0 x6 x7 x8 x11 x12)
noncomputable def ref01_Add_13_0_L {R : Type} : ref01_Add_13_0_ty R
  | 0, _, _, _, _, _, _, _, _, _ => none
  | n + 1, x0', x1', x2', x3', x4', x5', x6', e0, e1 => ref01_Add_13_0_B (fun x0' x1' x2' x3' x4' x5' x6' => ref01_Add_13_0_L n x0' x1' x2' x3' x4' x5' x6' e0 e1) x0' x1' x2' x3' x4' x5' x6' e0 e1
noncomputable def ref01_Add_13_0_h : Hint := { live := [2, 3, 4, 8, 9, 10, 11], own := [], rows := [], cells := [], drop := [], out := [3, 4, 5, 8, 9, 10] }
abbrev ref01_Add_13_0_D : Type := Int × Int × Int × Int × Dcm × Dcm × Dcm
noncomputable def ref01_Add_13_0_enc : ref01_Add_13_0_D → St := fun d => ⟨[.undef, .undef, .ptr 0 0, .ptr 1 0, .ptr 2 0, .undef, .undef, .undef, .int .i64 d.1, .int .i64 d.2.1, .int .i64 d.2.2.1, .int .i64 d.2.2.2.1, .undef, .undef, .undef, .undef, .undef, .undef, .undef, .undef, .undef, .undef, .undef, .undef, .undef, .undef, .undef, .undef, .undef, .undef, .undef, .undef, .undef, .undef, .undef, .undef, .undef, .undef, .undef, .undef, .undef, .undef, .undef, .undef, .undef, .undef, .undef, .undef, .undef, .undef, .undef, .undef, .undef, .undef, .undef, .undef, .undef, .undef, .undef, .undef, .undef, .undef, .undef, .undef, .undef, .undef, .undef, .undef, .undef, .undef, .undef, .undef, .undef, .undef, .undef, .undef, .undef, .undef, .undef, .undef], [.cells [.int .i64 d.2.2.2.2.1.mant, .int .i64 d.2.2.2.2.1.exp], .cells [.int .i64 d.2.2.2.2.2.1.mant, .int .i64 d.2.2.2.2.2.1.exp], .cells [.int .i64 d.2.2.2.2.2.2.mant, .int .i64 d.2.2.2.2.2.2.exp]]⟩
noncomputable def ref01_Add_13_0_x0 {R : Type} (K : Ex → St → Option R) (q0 : Int) (q1 : Int) (q2 : Int) (q3 : Dcm) (q4 : Dcm) : Option R := K (.exit 0) ⟨[.undef, .undef, .undef, .ptr 0 0, .ptr 1 0, .undef, .undef, .undef, .int .i64 q0, .int .i64 q1, .int .i64 q2, .undef, .undef, .undef, .undef, .undef, .undef, .undef, .undef, .undef, .undef, .undef, .undef, .undef, .undef, .undef, .undef, .undef, .undef, .undef, .undef, .undef, .undef, .undef, .undef, .undef, .undef, .undef, .undef, .undef, .undef, .undef, .undef, .undef, .undef, .undef, .undef, .undef, .undef, .undef, .undef, .undef, .undef, .undef, .undef, .undef, .undef, .undef, .undef, .undef, .undef, .undef, .undef, .undef, .undef, .undef, .undef, .undef, .undef, .undef, .undef, .undef, .undef, .undef, .undef, .undef, .undef, .undef, .undef, .undef], [.cells [.int .i64 q3.mant, .int .i64 q3.exp], .cells [.int .i64 q4.mant, .int .i64 q4.exp]]⟩
noncomputable def ref01_Add_13_0_x1 {R : Type} (K : Ex → St → Option R) (q0 : Bool) (q1 : Int) (q2 : Int) (q3 : Int) (q4 : Dcm) (q5 : Dcm) : Option R := K (.ret) ⟨[.undef, .undef, .undef, .ptr 0 0, .ptr 1 0, .bool q0, .undef, .undef, .int .i64 q1, .int .i64 q2, .int .i64 q3, .undef, .undef, .undef, .undef, .undef, .undef, .undef, .undef, .undef, .undef, .undef, .undef, .undef, .undef, .undef, .undef, .undef, .undef, .undef, .undef, .undef, .undef, .undef, .undef, .undef, .undef, .undef, .undef, .undef, .undef, .undef, .undef, .undef, .undef, .undef, .undef, .undef, .undef, .undef, .undef, .undef, .undef, .undef, .undef, .undef, .undef, .undef, .undef, .undef, .undef, .undef, .undef, .undef, .undef, .undef, .undef, .undef, .undef, .undef, .undef, .undef, .undef, .undef, .undef, .undef, .undef, .undef, .undef, .undef], [.cells [.int .i64 q4.mant, .int .i64 q4.exp], .cells [.int .i64 q5.mant, .int .i64 q5.exp]]⟩
noncomputable def ref01_Add_13_0_s {R : Type} (K : Ex → St → Option R) (rc : ref01_Add_13_0_D → Option R) (d : ref01_Add_13_0_D) : Option R := ref01_Add_13_0_B (fun z0 z1 z2 z3 z4 z5 z6 => rc (z0, z1, z2, z3, z4, z5, z6)) d.1 d.2.1 d.2.2.1 d.2.2.2.1 d.2.2.2.2.1 d.2.2.2.2.2.1 d.2.2.2.2.2.2 (ref01_Add_13_0_x0 K) (ref01_Add_13_0_x1 K)
noncomputable def ref01_Add_13_0_A {R : Type} (K : Ex → St → Option R) (n : Nat) (d : ref01_Add_13_0_D) : Option R := ref01_Add_13_0_L n d.1 d.2.1 d.2.2.1 d.2.2.2.1 d.2.2.2.2.1 d.2.2.2.2.2.1 d.2.2.2.2.2.2 (ref01_Add_13_0_x0 K) (ref01_Add_13_0_x1 K)
abbrev ref01_Add_13_0_p : List Pat := [.leaf (.undef), .leaf (.undef), .leaf (.ptr 0 0), .leaf (.ptr 1 0), .leaf (.ptr 2 0), .leaf (.undef), .leaf (.undef), .leaf (.undef), .leaf (.int .i64), .leaf (.int .i64), .leaf (.int .i64), .leaf (.int .i64), .leaf (.undef), .leaf (.undef), .leaf (.undef), .leaf (.undef), .leaf (.undef), .leaf (.undef), .leaf (.undef), .leaf (.undef), .leaf (.undef), .leaf (.undef), .leaf (.undef), .leaf (.undef), .leaf (.undef), .leaf (.undef), .leaf (.undef), .leaf (.undef), .leaf (.undef), .leaf (.undef), .leaf (.undef), .leaf (.undef), .leaf (.undef), .leaf (.undef), .leaf (.undef), .leaf (.undef), .leaf (.undef), .leaf (.undef), .leaf (.undef), .leaf (.undef), .leaf (.undef), .leaf (.undef), .leaf (.undef), .leaf (.undef), .leaf (.undef), .leaf (.undef), .leaf (.undef), .leaf (.undef), .leaf (.undef), .leaf (.undef), .leaf (.undef), .leaf (.undef), .leaf (.undef), .leaf (.undef), .leaf (.undef), .leaf (.undef), .leaf (.undef), .leaf (.undef), .leaf (.undef), .leaf (.undef), .leaf (.undef), .leaf (.undef), .leaf (.undef), .leaf (.undef), .leaf (.undef), .leaf (.undef), .leaf (.undef), .leaf (.undef), .leaf (.undef), .leaf (.undef), .leaf (.undef), .leaf (.undef), .leaf (.undef), .leaf (.undef), .leaf (.undef), .leaf (.undef), .leaf (.undef), .leaf (.undef), .leaf (.undef), .leaf (.undef)]
abbrev ref01_Add_13_0_q : List HPat := [.cells [.int .i64, .int .i64], .cells [.int .i64, .int .i64], .cells [.int .i64, .int .i64]]
noncomputable def ref01_Add_13_0_f (x : Pat.dens ref01_Add_13_0_p) (y : HPat.dens ref01_Add_13_0_q) : Nat := (Int.natAbs x.2.2.2.2.2.2.2.2.1 + Int.natAbs x.2.2.2.2.2.2.2.2.2.1 + Int.natAbs x.2.2.2.2.2.2.2.2.2.2.1 + Int.natAbs x.2.2.2.2.2.2.2.2.2.2.2.1 + Dcm.fu (⟨y.1.1, y.1.2.1⟩ : Dcm) + Dcm.fu (⟨y.2.1.1, y.2.1.2.1⟩ : Dcm) + Dcm.fu (⟨y.2.2.1.1, y.2.2.1.2.1⟩ : Dcm) + 64)
noncomputable def ref01_Add_13_0_d (x : Pat.dens ref01_Add_13_0_p) (y : HPat.dens ref01_Add_13_0_q) : ref01_Add_13_0_D := (x.2.2.2.2.2.2.2.2.1, x.2.2.2.2.2.2.2.2.2.1, x.2.2.2.2.2.2.2.2.2.2.1, x.2.2.2.2.2.2.2.2.2.2.2.1, (⟨y.1.1, y.1.2.1⟩ : Dcm), (⟨y.2.1.1, y.2.1.2.1⟩ : Dcm), (⟨y.2.2.1.1, y.2.2.1.2.1⟩ : Dcm))
noncomputable def ref01_Add_13_0_rr {R : Type} (L : ref01_Add_13_0_ty R) : Pat.dens ref01_Add_13_0_p → HPat.dens ref01_Add_13_0_q → (Ex → St → Option R) → Option R := fun x y K => L (ref01_Add_13_0_f x y) x.2.2.2.2.2.2.2.2.1 x.2.2.2.2.2.2.2.2.2.1 x.2.2.2.2.2.2.2.2.2.2.1 x.2.2.2.2.2.2.2.2.2.2.2.1 (⟨y.1.1, y.1.2.1⟩ : Dcm) (⟨y.2.1.1, y.2.1.2.1⟩ : Dcm) (⟨y.2.2.1.1, y.2.2.1.2.1⟩ : Dcm) (ref01_Add_13_0_x0 K) (ref01_Add_13_0_x1 K)
noncomputable def ref01_Add_19_0_B {R : Type} (rec' : Int → Int → Int → Int → Dcm → Dcm → Option R) (x25 : Int) (x26 : Int) (x27 : Int) (x28 : Int) (x29 : Dcm) (x30 : Dcm) (e0 : Int → Int → Int → Dcm → Option R) (e1 : Bool → Int → Int → Int → Dcm → Option R) : Option R :=
  bif (decide (x28 < x29.exp)) then (bif (decide (x27 > (288230376151711744 : Int))) then (e1 false x25 x26 x27 (⟨0, 0⟩ : Dcm)) else (bif (decide (x27 < (-288230376151711744 : Int))) then (e1 false x25 x26 x27 (⟨0, 0⟩ : Dcm)) else (rec' x25 x26 (IntKind.i64.wrap (10 * x27)) (IntKind.i64.wrap (x28 + 1)) x29 x30))) else (e0 x25 x26 x27 x30)
noncomputable def ref01_Add_19_0_L {R : Type} : ref01_Add_19_0_ty R
  | 0, _, _, _, _, _, _, _, _ => none
  | n + 1, x0', x1', x2', x3', x4', x5', e0, e1 => ref01_Add_19_0_B (fun x0' x1' x2' x3' x4' x5' => ref01_Add_19_0_L n x0' x1' x2' x3' x4' x5' e0 e1) x0' x1' x2' x3' x4' x5' e0 e1
noncomputable def ref01_Add_19_0_h : Hint := { live := [3, 4, 8, 9, 10, 12], own := [], rows := [], cells := [], drop := [], out := [4, 5, 8, 9, 10] }
abbrev ref01_Add_19_0_D : Type := Int × Int × Int × Int × Dcm × Dcm
noncomputable def ref01_Add_19_0_enc : ref01_Add_19_0_D → St := fun d => ⟨[.undef, .undef, .undef, .ptr 0 0, .ptr 1 0, .undef, .undef, .undef, .int .i64 d.1, .int .i64 d.2.1, .int .i64 d.2.2.1, .undef, .int .i64 d.2.2.2.1, .undef, .undef, .undef, .undef, .undef, .undef, .undef, .undef, .undef, .undef, .undef, .undef, .undef, .undef, .undef, .undef, .undef, .undef, .undef, .undef, .undef, .undef, .undef, .undef, .undef, .undef, .undef, .undef, .undef, .undef, .undef, .undef, .undef, .undef, .undef, .undef, .undef, .undef, .undef, .undef, .undef, .undef, .undef, .undef, .undef, .undef, .undef, .undef, .undef, .undef, .undef, .undef, .undef, .undef, .undef, .undef, .undef, .undef, .undef, .undef, .undef, .undef, .undef, .undef, .undef, .undef, .undef], [.cells [.int .i64 d.2.2.2.2.1.mant, .int .i64 d.2.2.2.2.1.exp], .cells [.int .i64 d.2.2.2.2.2.mant, .int .i64 d.2.2.2.2.2.exp]]⟩
noncomputable def ref01_Add_19_0_x0 {R : Type} (K : Ex → St → Option R) (q0 : Int) (q1 : Int) (q2 : Int) (q3 : Dcm) : Option R := K (.exit 2) ⟨[.undef, .undef, .undef, .undef, .ptr 0 0, .undef, .undef, .undef, .int .i64 q0, .int .i64 q1, .int .i64 q2, .undef, .undef, .undef, .undef, .undef, .undef, .undef, .undef, .undef, .undef, .undef, .undef, .undef, .undef, .undef, .undef, .undef, .undef, .undef, .undef, .undef, .undef, .undef, .undef, .undef, .undef, .undef, .undef, .undef, .undef, .undef, .undef, .undef, .undef, .undef, .undef, .undef, .undef, .undef, .undef, .undef, .undef, .undef, .undef, .undef, .undef, .undef, .undef, .undef, .undef, .undef, .undef, .undef, .undef, .undef, .undef, .undef, .undef, .undef, .undef, .undef, .undef, .undef, .undef, .undef, .undef, .undef, .undef, .undef], [.cells [.int .i64 q3.mant, .int .i64 q3.exp]]⟩
noncomputable def ref01_Add_19_0_x1 {R : Type} (K : Ex → St → Option R) (q0 : Bool) (q1 : Int) (q2 : Int) (q3 : Int) (q4 : Dcm) : Option R := K (.ret) ⟨[.undef, .undef, .undef, .undef, .ptr 0 0, .bool q0, .undef, .undef, .int .i64 q1, .int .i64 q2, .int .i64 q3, .undef, .undef, .undef, .undef, .undef, .undef, .undef, .undef, .undef, .undef, .undef, .undef, .undef, .undef, .undef, .undef, .undef, .undef, .undef, .undef, .undef, .undef, .undef, .undef, .undef, .undef, .undef, .undef, .undef, .undef, .undef, .undef, .undef, .undef, .undef, .undef, .undef, .undef, .undef, .undef, .undef, .undef, .undef, .undef, .undef, .undef, .undef, .undef, .undef, .undef, .undef, .undef, .undef, .undef, .undef, .undef, .undef, .undef, .undef, .undef, .undef, .undef, .undef, .undef, .undef, .undef, .undef, .undef, .undef], [.cells [.int .i64 q4.mant, .int .i64 q4.exp]]⟩
noncomputable def ref01_Add_19_0_s {R : Type} (K : Ex → St → Option R) (rc : ref01_Add_19_0_D → Option R) (d : ref01_Add_19_0_D) : Option R := ref01_Add_19_0_B (fun z0 z1 z2 z3 z4 z5 => rc (z0, z1, z2, z3, z4, z5)) d.1 d.2.1 d.2.2.1 d.2.2.2.1 d.2.2.2.2.1 d.2.2.2.2.2 (ref01_Add_19_0_x0 K) (ref01_Add_19_0_x1 K)
noncomputable def ref01_Add_19_0_A {R : Type} (K : Ex → St → Option R) (n : Nat) (d : ref01_Add_19_0_D) : Option R := ref01_Add_19_0_L n d.1 d.2.1 d.2.2.1 d.2.2.2.1 d.2.2.2.2.1 d.2.2.2.2.2 (ref01_Add_19_0_x0 K) (ref01_Add_19_0_x1 K)
abbrev ref01_Add_19_0_p : List Pat := [.leaf (.undef), .leaf (.undef), .leaf (.undef), .leaf (.ptr 0 0), .leaf (.ptr 1 0), .leaf (.undef), .leaf (.undef), .leaf (.undef), .leaf (.int .i64), .leaf (.int .i64), .leaf (.int .i64), .leaf (.undef), .leaf (.int .i64), .leaf (.undef), .leaf (.undef), .leaf (.undef), .leaf (.undef), .leaf (.undef), .leaf (.undef), .leaf (.undef), .leaf (.undef), .leaf (.undef), .leaf (.undef), .leaf (.undef), .leaf (.undef), .leaf (.undef), .leaf (.undef), .leaf (.undef), .leaf (.undef), .leaf (.undef), .leaf (.undef), .leaf (.undef), .leaf (.undef), .leaf (.undef), .leaf (.undef), .leaf (.undef), .leaf (.undef), .leaf (.undef), .leaf (.undef), .leaf (.undef), .leaf (.undef), .leaf (.undef), .leaf (.undef), .leaf (.undef), .leaf (.undef), .leaf (.undef), .leaf (.undef), .leaf (.undef), .leaf (.undef), .leaf (.undef), .leaf (.undef), .leaf (.undef), .leaf (.undef), .leaf (.undef), .leaf (.undef), .leaf (.undef), .leaf (.undef), .leaf (.undef), .leaf (.undef), .leaf (.undef), .leaf (.undef), .leaf (.undef), .leaf (.undef), .leaf (.undef), .leaf (.undef), .leaf (.undef), .leaf (.undef), .leaf (.undef), .leaf (.undef), .leaf (.undef), .leaf (.undef), .leaf (.undef), .leaf (.undef), .leaf (.undef), .leaf (.undef), .leaf (.undef), .leaf (.undef), .leaf (.undef), .leaf (.undef), .leaf (.undef)]
abbrev ref01_Add_19_0_q : List HPat := [.cells [.int .i64, .int .i64], .cells [.int .i64, .int .i64]]
noncomputable def ref01_Add_19_0_f (x : Pat.dens ref01_Add_19_0_p) (y : HPat.dens ref01_Add_19_0_q) : Nat := (Int.natAbs x.2.2.2.2.2.2.2.2.1 + Int.natAbs x.2.2.2.2.2.2.2.2.2.1 + Int.natAbs x.2.2.2.2.2.2.2.2.2.2.1 + Int.natAbs x.2.2.2.2.2.2.2.2.2.2.2.2.1 + Dcm.fu (⟨y.1.1, y.1.2.1⟩ : Dcm) + Dcm.fu (⟨y.2.1.1, y.2.1.2.1⟩ : Dcm) + 64)
noncomputable def ref01_Add_19_0_d (x : Pat.dens ref01_Add_19_0_p) (y : HPat.dens ref01_Add_19_0_q) : ref01_Add_19_0_D := (x.2.2.2.2.2.2.2.2.1, x.2.2.2.2.2.2.2.2.2.1, x.2.2.2.2.2.2.2.2.2.2.1, x.2.2.2.2.2.2.2.2.2.2.2.2.1, (⟨y.1.1, y.1.2.1⟩ : Dcm), (⟨y.2.1.1, y.2.1.2.1⟩ : Dcm))
noncomputable def ref01_Add_19_0_rr {R : Type} (L : ref01_Add_19_0_ty R) : Pat.dens ref01_Add_19_0_p → HPat.dens ref01_Add_19_0_q → (Ex → St → Option R) → Option R := fun x y K => L (ref01_Add_19_0_f x y) x.2.2.2.2.2.2.2.2.1 x.2.2.2.2.2.2.2.2.2.1 x.2.2.2.2.2.2.2.2.2.2.1 x.2.2.2.2.2.2.2.2.2.2.2.2.1 (⟨y.1.1, y.1.2.1⟩ : Dcm) (⟨y.2.1.1, y.2.1.2.1⟩ : Dcm) (ref01_Add_19_0_x0 K) (ref01_Add_19_0_x1 K)
noncomputable def ref01_Add_T (R : Type) (ref01_Add_13_0_L : ref01_Add_13_0_ty R) (ref01_Add_19_0_L : ref01_Add_19_0_ty R) : Nat → Option (Hint × LSpec R) := fun i => match i with
  | 13 => some (ref01_Add_13_0_h, (loopBy ref01_Add_13_0_p ref01_Add_13_0_q (ref01_Add_13_0_rr ref01_Add_13_0_L) loopNo))
  | 19 => some (ref01_Add_19_0_h, (loopBy ref01_Add_19_0_p ref01_Add_19_0_q (ref01_Add_19_0_rr ref01_Add_19_0_L) loopNo))
  | _ => none

theorem ref01_Add_13_0_B_ok {R : Type} (ref01_Make : ref01_Make_ty R) (ref01_Right : ref01_Right_ty R) (ref01_Add_13_0_L : ref01_Add_13_0_ty R) (ref01_Add_19_0_L : ref01_Add_19_0_ty R) (K : Ex → St → Option R) (rc : St → Option R) (d : ref01_Add_13_0_D) : roundOf tt (ref01_Add_E R ref01_Make ref01_Right) (ref01_Add_T R ref01_Add_13_0_L ref01_Add_19_0_L) 0 ((loopsOf (codeOf Tryd.f38)).getD 0 .skip) ref01_Add_13_0_h (ref01_Add_13_0_enc d) rc K = ref01_Add_13_0_s K (fun d => rc (ref01_Add_13_0_enc d)) d := by kernel_rfl
theorem ref01_Add_13_0_A_succ {R : Type} (K : Ex → St → Option R) (n : Nat) (d : ref01_Add_13_0_D) : ref01_Add_13_0_A K (n + 1) d = ref01_Add_13_0_s K (ref01_Add_13_0_A K n) d := by kernel_rfl
theorem ref01_Add_13_0_A_zero {R : Type} (K : Ex → St → Option R) (d : ref01_Add_13_0_D) : ref01_Add_13_0_A K 0 d = none := by kernel_rfl
theorem ref01_Add_13_0_e_ok (x : Pat.dens ref01_Add_13_0_p) (y : HPat.dens ref01_Add_13_0_q) : (⟨Pat.encL ref01_Add_13_0_p x, HPat.encL ref01_Add_13_0_q y⟩ : St) = ref01_Add_13_0_enc (ref01_Add_13_0_d x y) := by kernel_rfl
theorem ref01_Add_13_0_r_ok {R : Type} (x : Pat.dens ref01_Add_13_0_p) (y : HPat.dens ref01_Add_13_0_q) (K : Ex → St → Option R) : ref01_Add_13_0_rr (ref01_Add_13_0_L) x y K = ref01_Add_13_0_A K (ref01_Add_13_0_f x y) (ref01_Add_13_0_d x y) := by kernel_rfl
theorem ref01_Add_13_0_ok {R : Type} (other : LSpec R) (ho : LsOk tt (ref01_Add_E R ref01_Make ref01_Right) (ref01_Add_T R ref01_Add_13_0_L ref01_Add_19_0_L) 0 ((loopsOf (codeOf Tryd.f38)).getD 0 .skip) ref01_Add_13_0_h other) : LsOk tt (ref01_Add_E R ref01_Make ref01_Right) (ref01_Add_T R ref01_Add_13_0_L ref01_Add_19_0_L) 0 ((loopsOf (codeOf Tryd.f38)).getD 0 .skip) ref01_Add_13_0_h (loopBy ref01_Add_13_0_p ref01_Add_13_0_q (ref01_Add_13_0_rr (ref01_Add_13_0_L)) other) :=
  loopBy_tie (A := ref01_Add_13_0_A) ho (loop_tie ref01_Add_13_0_enc (ref01_Add_13_0_s) (ref01_Add_13_0_A) (ref01_Add_13_0_A_zero) (ref01_Add_13_0_B_ok ref01_Make ref01_Right ref01_Add_13_0_L ref01_Add_19_0_L) (ref01_Add_13_0_A_succ)) ref01_Add_13_0_f ref01_Add_13_0_d ref01_Add_13_0_e_ok (ref01_Add_13_0_r_ok)

theorem ref01_Add_19_0_B_ok {R : Type} (ref01_Make : ref01_Make_ty R) (ref01_Right : ref01_Right_ty R) (ref01_Add_13_0_L : ref01_Add_13_0_ty R) (ref01_Add_19_0_L : ref01_Add_19_0_ty R) (K : Ex → St → Option R) (rc : St → Option R) (d : ref01_Add_19_0_D) : roundOf tt (ref01_Add_E R ref01_Make ref01_Right) (ref01_Add_T R ref01_Add_13_0_L ref01_Add_19_0_L) 0 ((loopsOf (codeOf Tryd.f38)).getD 1 .skip) ref01_Add_19_0_h (ref01_Add_19_0_enc d) rc K = ref01_Add_19_0_s K (fun d => rc (ref01_Add_19_0_enc d)) d := by kernel_rfl
theorem ref01_Add_19_0_A_succ {R : Type} (K : Ex → St → Option R) (n : Nat) (d : ref01_Add_19_0_D) : ref01_Add_19_0_A K (n + 1) d = ref01_Add_19_0_s K (ref01_Add_19_0_A K n) d := by kernel_rfl
theorem ref01_Add_19_0_A_zero {R : Type} (K : Ex → St → Option R) (d : ref01_Add_19_0_D) : ref01_Add_19_0_A K 0 d = none := by kernel_rfl
theorem ref01_Add_19_0_e_ok (x : Pat.dens ref01_Add_19_0_p) (y : HPat.dens ref01_Add_19_0_q) : (⟨Pat.encL ref01_Add_19_0_p x, HPat.encL ref01_Add_19_0_q y⟩ : St) = ref01_Add_19_0_enc (ref01_Add_19_0_d x y) := by kernel_rfl
theorem ref01_Add_19_0_r_ok {R : Type} (x : Pat.dens ref01_Add_19_0_p) (y : HPat.dens ref01_Add_19_0_q) (K : Ex → St → Option R) : ref01_Add_19_0_rr (ref01_Add_19_0_L) x y K = ref01_Add_19_0_A K (ref01_Add_19_0_f x y) (ref01_Add_19_0_d x y) := by kernel_rfl
theorem ref01_Add_19_0_ok {R : Type} (other : LSpec R) (ho : LsOk tt (ref01_Add_E R ref01_Make ref01_Right) (ref01_Add_T R ref01_Add_13_0_L ref01_Add_19_0_L) 0 ((loopsOf (codeOf Tryd.f38)).getD 1 .skip) ref01_Add_19_0_h other) : LsOk tt (ref01_Add_E R ref01_Make ref01_Right) (ref01_Add_T R ref01_Add_13_0_L ref01_Add_19_0_L) 0 ((loopsOf (codeOf Tryd.f38)).getD 1 .skip) ref01_Add_19_0_h (loopBy ref01_Add_19_0_p ref01_Add_19_0_q (ref01_Add_19_0_rr (ref01_Add_19_0_L)) other) :=
  loopBy_tie (A := ref01_Add_19_0_A) ho (loop_tie ref01_Add_19_0_enc (ref01_Add_19_0_s) (ref01_Add_19_0_A) (ref01_Add_19_0_A_zero) (ref01_Add_19_0_B_ok ref01_Make ref01_Right ref01_Add_13_0_L ref01_Add_19_0_L) (ref01_Add_19_0_A_succ)) ref01_Add_19_0_f ref01_Add_19_0_d ref01_Add_19_0_e_ok (ref01_Add_19_0_r_ok)

noncomputable def ref01_Add_X {R : Type} (ref01_Make : ref01_Make_ty R) (ref01_Right : ref01_Right_ty R) (ref01_Add_13_0_L : ref01_Add_13_0_ty R) (ref01_Add_19_0_L : ref01_Add_19_0_ty R) (x1 : Dcm) (x2 : Dcm) (k0 : Dcm → Bool → Option R) : Option R :=
  ref01_Right x1 (fun y3 => ref01_Right x2 (fun y4 => bif (!y3) then (k0 (⟨0, 0⟩ : Dcm) false) else (bif (!y4) then (k0 (⟨0, 0⟩ : Dcm) false) else (bif (x1.mant == 0) then (k0 x2 true) else (bif (x2.mant == 0) then (k0 x1 true) else (ref01_Add_13_0_L (Int.natAbs (min x1.exp x2.exp) + Int.natAbs x1.mant + Int.natAbs x2.mant + Int.natAbs (min x1.exp x2.exp) + Dcm.fu x1 + Dcm.fu x2 + Dcm.fu (⟨0, 0⟩ : Dcm) + 64) (min x1.exp x2.exp) x1.mant x2.mant (min x1.exp x2.exp) x1 x2 (⟨0, 0⟩ : Dcm) (fun y14 y15 y16 y17 y18 => ref01_Add_19_0_L (Int.natAbs y14 + Int.natAbs y15 + Int.natAbs y16 + Int.natAbs y14 + Dcm.fu y17 + Dcm.fu y18 + 64) y14 y15 y16 y14 y17 y18 (fun y32 y33 y34 y35 => ref01_Make (IntKind.i64.wrap (y33 + y34)) y32 (fun y41 y42 => k0 y41 y42)) (fun y36 y37 y38 y39 y40 => k0 y40 y36)) (fun y19 y20 y21 y22 y23 y24 => k0 y24 y19)))))))
noncomputable def ref01_Add {R : Type} : ref01_Add_ty R := fun x1 x2 k0 => ref01_Add_X ref01_Make ref01_Right ref01_Add_13_0_L ref01_Add_19_0_L x1 x2 k0
theorem ref01_Add_ok {R : Type} (ref01_Make : ref01_Make_ty R) (ref01_Right : ref01_Right_ty R) (ref01_Add_13_0_L : ref01_Add_13_0_ty R) (ref01_Add_19_0_L : ref01_Add_19_0_ty R) (x1 : Dcm) (x2 : Dcm) (k : V → Heap → Option R) : funK tt (ref01_Add_E R ref01_Make ref01_Right) (ref01_Add_T R ref01_Add_13_0_L ref01_Add_19_0_L) false Tryd.f38 (codeOf Tryd.f38) [.agg [.int .i64 x1.mant, .int .i64 x1.exp], .agg [.int .i64 x2.mant, .int .i64 x2.exp]] [] k =
    ref01_Add_X ref01_Make ref01_Right ref01_Add_13_0_L ref01_Add_19_0_L x1 x2 (fun q0 q1 => k (.tuple [.agg [.int .i64 q0.mant, .int .i64 q0.exp], .bool q1]) []) := by kernel_rfl
theorem ref01_Add_loops (R : Type) : ∀ a ∈ loopsOf (codeOf Tryd.f38), LoopOk tt (ref01_Add_E R ref01_Make ref01_Right) (ref01_Add_T R ref01_Add_13_0_L ref01_Add_19_0_L) 0 a := by
  refine loops_ok 2 (by kernel_rfl) fun i hi => ?_
  match i, hi with
  | 0, _ => exact loopOk_some (by kernel_rfl) (ref01_Add_13_0_ok _ loopNo_ok)
  | 1, _ => exact loopOk_some (by kernel_rfl) (ref01_Add_19_0_ok _ loopNo_ok)
  | n + 2, hi => omega
theorem ref01_Add_S_ok (R : Type) (other : Yard.Spec R) (ho : Yard.Spec.Ok Tryd.prog 38 other) : Yard.Spec.Ok Tryd.prog 38 (specBy ref01_Add_p ref01_Add_q (ref01_Add_rr ref01_Add) other) :=
  specBy_ok ho (funK_sound TT mixed (ref01_Add_EOk R) (keep := false) rfl rfl rfl rfl 0 (ref01_Add_loops R)) fun (x : Pat.dens ref01_Add_p) (y : HPat.dens ref01_Add_q) k => ref01_Add_ok ref01_Make ref01_Right ref01_Add_13_0_L ref01_Add_19_0_L (⟨x.1.1, x.1.2.1⟩ : Dcm) (⟨x.2.1.1, x.2.1.2.1⟩ : Dcm) k

/-! ### humpyard/humpyardref01.Int -/
abbrev ref01_Int_ty (R : Type) : Type := Dcm → (Int → Bool → Option R) → Option R
abbrev ref01_Int_p : List Pat := [.agg [.int .i64, .int .i64]]
abbrev ref01_Int_q : List HPat := []
noncomputable def ref01_Int_rr {R : Type} (fn : ref01_Int_ty R) : Pat.dens ref01_Int_p → HPat.dens ref01_Int_q → (V → Heap → Option R) → Option R := fun x y k => fn (⟨x.1.1, x.1.2.1⟩ : Dcm) (fun q0 q1 => k (.tuple [.int .i64 q0, .bool q1]) [])
abbrev ref01_Int_6_0_ty (R : Type) : Type := Nat → Int → Int → Dcm → (Int → Option R) → (Int → Bool → Int → Option R) → Option R
noncomputable def ref01_Int_E (R : Type) (ref01_Right : ref01_Right_ty R) : Env R := fun i => match i with
  | 41 => some (true, (specBy ref01_Right_p ref01_Right_q (ref01_Right_rr ref01_Right) specNo))
  | _ => none
theorem ref01_Int_EOk (R : Type) : EOk Tryd.prog (ref01_Int_E R ref01_Right) := by
  intro i b sp h
  unfold ref01_Int_E at h
  split at h
  · cases h; exact ⟨(ref01_Right_S_ok R _ (specNo_ok _)), fun h => nomatch h⟩
  · cases h

noncomputable def ref01_Int_6_0_B {R : Type} (rec' : Int → Int → Dcm → Option R) (x4 : Int) (x5 : Int) (x6 : Dcm) (e0 : Int → Option R) (e1 : Int → Bool → Int → Option R) : Option R :=
  bif (decide (x5 < x6.exp)) then (bif (decide (x4 > (100000000000000000 : Int))) then (e1 0 false x4) else (bif (decide (x4 < (-100000000000000000 : Int))) then (e1 0 false x4) else (rec' (IntKind.i64.wrap (10 * x4)) (IntKind.i64.wrap (x5 + 1)) x6))) else (e0 x4)
noncomputable def ref01_Int_6_0_L {R : Type} : ref01_Int_6_0_ty R
  | 0, _, _, _, _, _ => none
  | n + 1, x0', x1', x2', e0, e1 => ref01_Int_6_0_B (fun x0' x1' x2' => ref01_Int_6_0_L n x0' x1' x2' e0 e1) x0' x1' x2' e0 e1
noncomputable def ref01_Int_6_0_h : Hint := { live := [1, 5, 6], own := [], rows := [], cells := [], drop := [], out := [2, 3, 5] }
abbrev ref01_Int_6_0_D : Type := Int × Int × Dcm
noncomputable def ref01_Int_6_0_enc : ref01_Int_6_0_D → St := fun d => ⟨[.undef, .ptr 0 0, .undef, .undef, .undef, .int .i64 d.1, .int .i64 d.2.1, .undef, .undef, .undef, .undef, .undef, .undef, .undef, .undef, .undef, .undef, .undef, .undef, .undef, .undef, .undef, .undef, .undef, .undef, .undef, .undef, .undef, .undef, .undef, .undef, .undef, .undef], [.cells [.int .i64 d.2.2.mant, .int .i64 d.2.2.exp]]⟩
noncomputable def ref01_Int_6_0_x0 {R : Type} (K : Ex → St → Option R) (q0 : Int) : Option R := K (.exit 0) ⟨[.undef, .undef, .undef, .undef, .undef, .int .i64 q0, .undef, .undef, .undef, .undef, .undef, .undef, .undef, .undef, .undef, .undef, .undef, .undef, .undef, .undef, .undef, .undef, .undef, .undef, .undef, .undef, .undef, .undef, .undef, .undef, .undef, .undef, .undef], []⟩
noncomputable def ref01_Int_6_0_x1 {R : Type} (K : Ex → St → Option R) (q0 : Int) (q1 : Bool) (q2 : Int) : Option R := K (.ret) ⟨[.undef, .undef, .int .i64 q0, .bool q1, .undef, .int .i64 q2, .undef, .undef, .undef, .undef, .undef, .undef, .undef, .undef, .undef, .undef, .undef, .undef, .undef, .undef, .undef, .undef, .undef, .undef, .undef, .undef, .undef, .undef, .undef, .undef, .undef, .undef, .undef], []⟩
noncomputable def ref01_Int_6_0_s {R : Type} (K : Ex → St → Option R) (rc : ref01_Int_6_0_D → Option R) (d : ref01_Int_6_0_D) : Option R := ref01_Int_6_0_B (fun z0 z1 z2 => rc (z0, z1, z2)) d.1 d.2.1 d.2.2 (ref01_Int_6_0_x0 K) (ref01_Int_6_0_x1 K)
noncomputable def ref01_Int_6_0_A {R : Type} (K : Ex → St → Option R) (n : Nat) (d : ref01_Int_6_0_D) : Option R := ref01_Int_6_0_L n d.1 d.2.1 d.2.2 (ref01_Int_6_0_x0 K) (ref01_Int_6_0_x1 K)
abbrev ref01_Int_6_0_p : List Pat := [.leaf (.undef), .leaf (.ptr 0 0), .leaf (.undef), .leaf (.undef), .leaf (.undef), .leaf (.int .i64), .leaf (.int .i64), .leaf (.undef), .leaf (.undef), .leaf (.undef), .leaf (.undef), .leaf (.undef), .leaf (.undef), .leaf (.undef), .leaf (.undef), .leaf (.undef), .leaf (.undef), .leaf (.undef), .leaf (.undef), .leaf (.undef), .leaf (.undef), .leaf (.undef), .leaf (.undef), .leaf (.undef), .leaf (.undef), .leaf (.undef), .leaf (.undef), .leaf (.undef), .leaf (.undef), .leaf (.undef), .leaf (.undef), .leaf (.undef), .leaf (.undef)]
abbrev ref01_Int_6_0_q : List HPat := [.cells [.int .i64, .int .i64]]
noncomputable def ref01_Int_6_0_f (x : Pat.dens ref01_Int_6_0_p) (y : HPat.dens ref01_Int_6_0_q) : Nat := (Int.natAbs x.2.2.2.2.2.1 + Int.natAbs x.2.2.2.2.2.2.1 + Dcm.fu (⟨y.1.1, y.1.2.1⟩ : Dcm) + 64)
noncomputable def ref01_Int_6_0_d (x : Pat.dens ref01_Int_6_0_p) (y : HPat.dens ref01_Int_6_0_q) : ref01_Int_6_0_D := (x.2.2.2.2.2.1, x.2.2.2.2.2.2.1, (⟨y.1.1, y.1.2.1⟩ : Dcm))
noncomputable def ref01_Int_6_0_rr {R : Type} (L : ref01_Int_6_0_ty R) : Pat.dens ref01_Int_6_0_p → HPat.dens ref01_Int_6_0_q → (Ex → St → Option R) → Option R := fun x y K => L (ref01_Int_6_0_f x y) x.2.2.2.2.2.1 x.2.2.2.2.2.2.1 (⟨y.1.1, y.1.2.1⟩ : Dcm) (ref01_Int_6_0_x0 K) (ref01_Int_6_0_x1 K)
noncomputable def ref01_Int_T (R : Type) (ref01_Int_6_0_L : ref01_Int_6_0_ty R) : Nat → Option (Hint × LSpec R) := fun i => match i with
  | 6 => some (ref01_Int_6_0_h, (loopBy ref01_Int_6_0_p ref01_Int_6_0_q (ref01_Int_6_0_rr ref01_Int_6_0_L) loopNo))
  | _ => none

theorem ref01_Int_6_0_B_ok {R : Type} (ref01_Right : ref01_Right_ty R) (ref01_Int_6_0_L : ref01_Int_6_0_ty R) (K : Ex → St → Option R) (rc : St → Option R) (d : ref01_Int_6_0_D) : roundOf tt (ref01_Int_E R ref01_Right) (ref01_Int_T R ref01_Int_6_0_L) 0 ((loopsOf (codeOf Tryd.f40)).getD 0 .skip) ref01_Int_6_0_h (ref01_Int_6_0_enc d) rc K = ref01_Int_6_0_s K (fun d => rc (ref01_Int_6_0_enc d)) d := by kernel_rfl
theorem ref01_Int_6_0_A_succ {R : Type} (K : Ex → St → Option R) (n : Nat) (d : ref01_Int_6_0_D) : ref01_Int_6_0_A K (n + 1) d = ref01_Int_6_0_s K (ref01_Int_6_0_A K n) d := by kernel_rfl
theorem ref01_Int_6_0_A_zero {R : Type} (K : Ex → St → Option R) (d : ref01_Int_6_0_D) : ref01_Int_6_0_A K 0 d = none := by kernel_rfl
theorem ref01_Int_6_0_e_ok (x : Pat.dens ref01_Int_6_0_p) (y : HPat.dens ref01_Int_6_0_q) : (⟨Pat.encL ref01_Int_6_0_p x, HPat.encL ref01_Int_6_0_q y⟩ : St) = ref01_Int_6_0_enc (ref01_Int_6_0_d x y) := by kernel_rfl
theorem ref01_Int_6_0_r_ok {R : Type} (x : Pat.dens ref01_Int_6_0_p) (y : HPat.dens ref01_Int_6_0_q) (K : Ex → St → Option R) : ref01_Int_6_0_rr (ref01_Int_6_0_L) x y K = ref01_Int_6_0_A K (ref01_Int_6_0_f x y) (ref01_Int_6_0_d x y) := by kernel_rfl
theorem ref01_Int_6_0_ok {R : Type} (other : LSpec R) (ho : LsOk tt (ref01_Int_E R ref01_Right) (ref01_Int_T R ref01_Int_6_0_L) 0 ((loopsOf (codeOf Tryd.f40)).getD 0 .skip) ref01_Int_6_0_h other) : LsOk tt (ref01_Int_E R ref01_Right) (ref01_Int_T R ref01_Int_6_0_L) 0 ((loopsOf (codeOf Tryd.f40)).getD 0 .skip) ref01_Int_6_0_h (loopBy ref01_Int_6_0_p ref01_Int_6_0_q (ref01_Int_6_0_rr (ref01_Int_6_0_L)) other) :=
  loopBy_tie (A := ref01_Int_6_0_A) ho (loop_tie ref01_Int_6_0_enc (ref01_Int_6_0_s) (ref01_Int_6_0_A) (ref01_Int_6_0_A_zero) (ref01_Int_6_0_B_ok ref01_Right ref01_Int_6_0_L) (ref01_Int_6_0_A_succ)) ref01_Int_6_0_f ref01_Int_6_0_d ref01_Int_6_0_e_ok (ref01_Int_6_0_r_ok)

noncomputable def ref01_Int_X {R : Type} (ref01_Right : ref01_Right_ty R) (ref01_Int_6_0_L : ref01_Int_6_0_ty R) (x1 : Dcm) (k0 : Int → Bool → Option R) : Option R :=
  ref01_Right x1 (fun y2 => bif (!y2) then (k0 0 false) else (bif (decide (x1.exp < (0 : Int))) then (k0 0 false) else (ref01_Int_6_0_L (Int.natAbs x1.mant + Int.natAbs 0 + Dcm.fu x1 + 64) x1.mant 0 x1 (fun y8 => k0 y8 true) (fun y9 y10 y11 => k0 y9 y10))))
noncomputable def ref01_Int {R : Type} : ref01_Int_ty R := fun x1 k0 => ref01_Int_X ref01_Right ref01_Int_6_0_L x1 k0
theorem ref01_Int_ok {R : Type} (ref01_Right : ref01_Right_ty R) (ref01_Int_6_0_L : ref01_Int_6_0_ty R) (x1 : Dcm) (k : V → Heap → Option R) : funK tt (ref01_Int_E R ref01_Right) (ref01_Int_T R ref01_Int_6_0_L) false Tryd.f40 (codeOf Tryd.f40) [.agg [.int .i64 x1.mant, .int .i64 x1.exp]] [] k =
    ref01_Int_X ref01_Right ref01_Int_6_0_L x1 (fun q0 q1 => k (.tuple [.int .i64 q0, .bool q1]) []) := by kernel_rfl
theorem ref01_Int_loops (R : Type) : ∀ a ∈ loopsOf (codeOf Tryd.f40), LoopOk tt (ref01_Int_E R ref01_Right) (ref01_Int_T R ref01_Int_6_0_L) 0 a := by
  refine loops_ok 1 (by kernel_rfl) fun i hi => ?_
  match i, hi with
  | 0, _ => exact loopOk_some (by kernel_rfl) (ref01_Int_6_0_ok _ loopNo_ok)
  | n + 1, hi => omega
theorem ref01_Int_S_ok (R : Type) (other : Yard.Spec R) (ho : Yard.Spec.Ok Tryd.prog 40 other) : Yard.Spec.Ok Tryd.prog 40 (specBy ref01_Int_p ref01_Int_q (ref01_Int_rr ref01_Int) other) :=
  specBy_ok ho (funK_sound TT mixed (ref01_Int_EOk R) (keep := false) rfl rfl rfl rfl 0 (ref01_Int_loops R)) fun (x : Pat.dens ref01_Int_p) (y : HPat.dens ref01_Int_q) k => ref01_Int_ok ref01_Right ref01_Int_6_0_L (⟨x.1.1, x.1.2.1⟩ : Dcm) k

end Go.Proofs.YtifgegmnngfckaaDoor

