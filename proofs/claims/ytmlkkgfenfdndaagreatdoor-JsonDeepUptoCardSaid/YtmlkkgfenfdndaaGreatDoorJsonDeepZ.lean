/-
  JsonDeep: for every input whose bulk is at most 1048576 the law returns true, and each argument reads behind the call as it read before; part 9 of 9 of the proof: an interpreter of the model's code over typed data, proved sound; the functions that the law reaches, printed as Lean functions and tied; the plain law. Own texts laid one behind the other.
-/
import Derived.Test.YtmlkkgfenfdndaaGreatDoorJsonDeepB8
set_option linter.unusedSimpArgs false
set_option linter.unnecessarySimpa false
set_option linter.unusedVariables false
set_option linter.unusedSectionVars false
/-
  Functions of the program as pure Lean functions, and the ties; printed by wip/tools/emit.py.
-/
set_option maxRecDepth 100000
set_option linter.unusedVariables false
namespace Go.Proofs.YtmlkkgfenfdndaaGreatDoor
open Go Go.Yard

/-! ### humpyard/json.Right -/
abbrev json_Right_ty (R : Type) : Type := Json → (Bool → Option R) → Option R
abbrev json_Right_p : List Pat := [.agg [.int .i64, .int .i64, .int .i64, .str, .sl .str, .sl .json]]
abbrev json_Right_q : List HPat := []
noncomputable def json_Right_rr {R : Type} (fn : json_Right_ty R) : Pat.dens json_Right_p → HPat.dens json_Right_q → (V → Heap → Option R) → Option R := fun x y k => fn (⟨x.1.1, ⟨x.1.2.1, x.1.2.2.1⟩, x.1.2.2.2.1, x.1.2.2.2.2.1, x.1.2.2.2.2.2.1⟩ : Json) (fun q0 => k (.bool q0) [])
noncomputable def json_Right_E (R : Type) (json_right : json_right_ty R) : Env R := fun i => match i with
  | 56 => some (true, (specBy json_right_p json_right_q (json_right_rr json_right) specNo))
  | _ => none
theorem json_Right_EOk (R : Type) : EOk Tryz.prog (json_Right_E R json_right) := by
  intro i b sp h
  unfold json_Right_E at h
  split at h
  · cases h; exact ⟨(json_right_S_ok R _ (specNo_ok _)), fun h => nomatch h⟩
  · cases h

noncomputable def json_Right_T (R : Type) : Nat → Option (Hint × LSpec R) := fun i => match i with
  | _ => none

noncomputable def json_Right_X {R : Type} (json_right : json_right_ty R) (x1 : Json) (k0 : Bool → Option R) : Option R :=
  json_right (⟨x1.kind, ⟨x1.num.mant, x1.num.exp⟩, x1.text, x1.names, x1.items⟩ : Json) 1 (fun y2 => k0 y2)
noncomputable def json_Right {R : Type} : json_Right_ty R := fun x1 k0 => json_Right_X json_right x1 k0
theorem json_Right_ok {R : Type} (json_right : json_right_ty R) (x1 : Json) (k : V → Heap → Option R) : funK tt (json_Right_E R json_right) (json_Right_T R) false Tryz.f32 (codeOf Tryz.f32) [.agg [.int .i64 x1.kind, .int .i64 x1.num.mant, .int .i64 x1.num.exp, .str x1.text, .sl .str x1.names .no, .sl .json x1.items .no]] [] k =
    json_Right_X json_right x1 (fun q0 => k (.bool q0) []) := by kernel_rfl
theorem json_Right_loops (R : Type) : ∀ a ∈ loopsOf (codeOf Tryz.f32), LoopOk tt (json_Right_E R json_right) (json_Right_T R) 0 a := by
  refine loops_ok 0 (by kernel_rfl) fun i hi => ?_
  omega
theorem json_Right_S_ok (R : Type) (other : Yard.Spec R) (ho : Yard.Spec.Ok Tryz.prog 32 other) : Yard.Spec.Ok Tryz.prog 32 (specBy json_Right_p json_Right_q (json_Right_rr json_Right) other) :=
  specBy_ok ho (funK_sound TT mixed (json_Right_EOk R) (keep := false) rfl rfl rfl rfl 0 (json_Right_loops R)) fun (x : Pat.dens json_Right_p) (y : HPat.dens json_Right_q) k => json_Right_ok json_right (⟨x.1.1, ⟨x.1.2.1, x.1.2.2.1⟩, x.1.2.2.2.1, x.1.2.2.2.2.1, x.1.2.2.2.2.2.1⟩ : Json) k

/-! ### humpyard/json.write$1 -/
abbrev json_write_1_c8fa_ty (R : Type) : Type := Str → ((List Int) → Option R) → Option R
abbrev json_write_1_c8fa_p : List Pat := [.leaf (.str), .leaf (.ptr 0 0)]
abbrev json_write_1_c8fa_q : List HPat := [.cells [.ptr 1 0], .bld (.nilsl)]
noncomputable def json_write_1_c8fa_rr {R : Type} (fn : json_write_1_c8fa_ty R) : Pat.dens json_write_1_c8fa_p → HPat.dens json_write_1_c8fa_q → (V → Heap → Option R) → Option R := fun x y k => fn x.1 (fun q0 => k (.tuple []) [.cells [.ptr 1 0], .bld (.sl (.int .u8) q0 (.own 2)), .tok])
noncomputable def json_write_1_c8fa_E (R : Type) (quote_Quote : quote_Quote_ty R) (strings_Builder_WriteString_fb8e : strings_Builder_WriteString_fb8e_ty R) : Env R := fun i => match i with
  | 26 => some (true, (specBy quote_Quote_p quote_Quote_q (quote_Quote_rr quote_Quote) specNo))
  | 52 => some (false, (specBy strings_Builder_WriteString_fb8e_p strings_Builder_WriteString_fb8e_q (strings_Builder_WriteString_fb8e_rr strings_Builder_WriteString_fb8e) specNo))
  | _ => none
theorem json_write_1_c8fa_EOk (R : Type) : EOk Tryz.prog (json_write_1_c8fa_E R quote_Quote strings_Builder_WriteString_fb8e) := by
  intro i b sp h
  unfold json_write_1_c8fa_E at h
  split at h
  · cases h; exact ⟨(quote_Quote_S_ok R _ (specNo_ok _)), fun h => nomatch h⟩
  · cases h; exact ⟨(strings_Builder_WriteString_fb8e_S_ok R _ (specNo_ok _)), fun _ h => nomatch h⟩
  · cases h

noncomputable def json_write_1_c8fa_T (R : Type) : Nat → Option (Hint × LSpec R) := fun i => match i with
  | _ => none

noncomputable def json_write_1_c8fa_X {R : Type} (quote_Quote : quote_Quote_ty R) (strings_Builder_WriteString_fb8e : strings_Builder_WriteString_fb8e_ty R) (x1 : Str) (k0 : (List Int) → Option R) : Option R :=
  quote_Quote x1 (fun y2 y3 => strings_Builder_WriteString_fb8e y2 (fun y4 y5 => k0 y5))
noncomputable def json_write_1_c8fa {R : Type} : json_write_1_c8fa_ty R := fun x1 k0 => json_write_1_c8fa_X quote_Quote strings_Builder_WriteString_fb8e x1 k0
theorem json_write_1_c8fa_ok {R : Type} (quote_Quote : quote_Quote_ty R) (strings_Builder_WriteString_fb8e : strings_Builder_WriteString_fb8e_ty R) (x1 : Str) (k : V → Heap → Option R) : funK tt (json_write_1_c8fa_E R quote_Quote strings_Builder_WriteString_fb8e) (json_write_1_c8fa_T R) false Tryz.f61 (codeOf Tryz.f61) [.str x1, .ptr 0 0] [.cells [.ptr 1 0], .bld (.nilsl)] k =
    json_write_1_c8fa_X quote_Quote strings_Builder_WriteString_fb8e x1 (fun q0 => k (.tuple []) [.cells [.ptr 1 0], .bld (.sl (.int .u8) q0 (.own 2)), .tok]) := by kernel_rfl
theorem json_write_1_c8fa_loops (R : Type) : ∀ a ∈ loopsOf (codeOf Tryz.f61), LoopOk tt (json_write_1_c8fa_E R quote_Quote strings_Builder_WriteString_fb8e) (json_write_1_c8fa_T R) 2 a := by
  refine loops_ok 0 (by kernel_rfl) fun i hi => ?_
  omega
theorem json_write_1_c8fa_S_ok (R : Type) (other : Yard.Spec R) (ho : Yard.Spec.Ok Tryz.prog 61 other) : Yard.Spec.Ok Tryz.prog 61 (specBy json_write_1_c8fa_p json_write_1_c8fa_q (json_write_1_c8fa_rr json_write_1_c8fa) other) :=
  specBy_ok ho (funK_sound TT mixed (json_write_1_c8fa_EOk R) (keep := false) rfl rfl rfl rfl 2 (json_write_1_c8fa_loops R)) fun (x : Pat.dens json_write_1_c8fa_p) (y : HPat.dens json_write_1_c8fa_q) k => json_write_1_c8fa_ok quote_Quote strings_Builder_WriteString_fb8e x.1 k

/-! ### humpyard/json.write$1 -/
abbrev json_write_1_20be_ty (R : Type) : Type := Str → (List Int) → ((List Int) → Option R) → Option R
abbrev json_write_1_20be_p : List Pat := [.leaf (.str), .leaf (.ptr 0 0)]
abbrev json_write_1_20be_q : List HPat := [.cells [.ptr 1 0], .bld (.slo (.int .u8) 2), .tok]
noncomputable def json_write_1_20be_rr {R : Type} (fn : json_write_1_20be_ty R) : Pat.dens json_write_1_20be_p → HPat.dens json_write_1_20be_q → (V → Heap → Option R) → Option R := fun x y k => fn x.1 y.2.1 (fun q0 => k (.tuple []) [.cells [.ptr 1 0], .bld (.sl (.int .u8) q0 (.own 3)), .dead, .tok])
noncomputable def json_write_1_20be_E (R : Type) (quote_Quote : quote_Quote_ty R) (strings_Builder_WriteString_df1e : strings_Builder_WriteString_df1e_ty R) : Env R := fun i => match i with
  | 26 => some (true, (specBy quote_Quote_p quote_Quote_q (quote_Quote_rr quote_Quote) specNo))
  | 52 => some (false, (specBy strings_Builder_WriteString_df1e_p strings_Builder_WriteString_df1e_q (strings_Builder_WriteString_df1e_rr strings_Builder_WriteString_df1e) specNo))
  | _ => none
theorem json_write_1_20be_EOk (R : Type) : EOk Tryz.prog (json_write_1_20be_E R quote_Quote strings_Builder_WriteString_df1e) := by
  intro i b sp h
  unfold json_write_1_20be_E at h
  split at h
  · cases h; exact ⟨(quote_Quote_S_ok R _ (specNo_ok _)), fun h => nomatch h⟩
  · cases h; exact ⟨(strings_Builder_WriteString_df1e_S_ok R _ (specNo_ok _)), fun _ h => nomatch h⟩
  · cases h

noncomputable def json_write_1_20be_T (R : Type) : Nat → Option (Hint × LSpec R) := fun i => match i with
  | _ => none

noncomputable def json_write_1_20be_X {R : Type} (quote_Quote : quote_Quote_ty R) (strings_Builder_WriteString_df1e : strings_Builder_WriteString_df1e_ty R) (x1 : Str) (x2 : List Int) (k0 : (List Int) → Option R) : Option R :=
  quote_Quote x1 (fun y3 y4 => strings_Builder_WriteString_df1e y3 x2 (fun y5 y6 => k0 y6))
noncomputable def json_write_1_20be {R : Type} : json_write_1_20be_ty R := fun x1 x2 k0 => json_write_1_20be_X quote_Quote strings_Builder_WriteString_df1e x1 x2 k0
theorem json_write_1_20be_ok {R : Type} (quote_Quote : quote_Quote_ty R) (strings_Builder_WriteString_df1e : strings_Builder_WriteString_df1e_ty R) (x1 : Str) (x2 : List Int) (k : V → Heap → Option R) : funK tt (json_write_1_20be_E R quote_Quote strings_Builder_WriteString_df1e) (json_write_1_20be_T R) false Tryz.f61 (codeOf Tryz.f61) [.str x1, .ptr 0 0] [.cells [.ptr 1 0], .bld (.sl (.int .u8) x2 (.own 2)), .tok] k =
    json_write_1_20be_X quote_Quote strings_Builder_WriteString_df1e x1 x2 (fun q0 => k (.tuple []) [.cells [.ptr 1 0], .bld (.sl (.int .u8) q0 (.own 3)), .dead, .tok]) := by kernel_rfl
theorem json_write_1_20be_loops (R : Type) : ∀ a ∈ loopsOf (codeOf Tryz.f61), LoopOk tt (json_write_1_20be_E R quote_Quote strings_Builder_WriteString_df1e) (json_write_1_20be_T R) 3 a := by
  refine loops_ok 0 (by kernel_rfl) fun i hi => ?_
  omega
theorem json_write_1_20be_S_ok (R : Type) (other : Yard.Spec R) (ho : Yard.Spec.Ok Tryz.prog 61 other) : Yard.Spec.Ok Tryz.prog 61 (specBy json_write_1_20be_p json_write_1_20be_q (json_write_1_20be_rr json_write_1_20be) other) :=
  specBy_ok ho (funK_sound TT mixed (json_write_1_20be_EOk R) (keep := false) rfl rfl rfl rfl 3 (json_write_1_20be_loops R)) fun (x : Pat.dens json_write_1_20be_p) (y : HPat.dens json_write_1_20be_q) k => json_write_1_20be_ok quote_Quote strings_Builder_WriteString_df1e x.1 y.2.1 k

/-! ### humpyard/json.write -/
abbrev json_write_9953_ty (R : Type) : Type := Json → (List Int) → ((List Int) → Option R) → Option R
abbrev json_write_9953_p : List Pat := [.leaf (.ptr 0 0), .agg [.int .i64, .int .i64, .int .i64, .str, .sl .str, .sl .json]]
abbrev json_write_9953_q : List HPat := [.bld (.slo (.int .u8) 1), .tok]
noncomputable def json_write_9953_rr {R : Type} (fn : json_write_9953_ty R) : Pat.dens json_write_9953_p → HPat.dens json_write_9953_q → (V → Heap → Option R) → Option R := fun x y k => fn (⟨x.2.1.1, ⟨x.2.1.2.1, x.2.1.2.2.1⟩, x.2.1.2.2.2.1, x.2.1.2.2.2.2.1, x.2.1.2.2.2.2.2.1⟩ : Json) y.1 (fun q0 => k (.tuple []) [.bld (.sl (.int .u8) q0 (.own 2)), .dead, .tok])
abbrev json_write_9953_18_0_ty (R : Type) : Type := Nat → Str → (List Json) → Int → Int → (List Int) → Json → (Str → (List Int) → Option R) → Option R
noncomputable def json_write_9953_E (R : Type) (decimal_Print : decimal_Print_ty R) (strings_Builder_WriteByte_4b84 : strings_Builder_WriteByte_4b84_ty R) (strings_Builder_WriteString_df1e : strings_Builder_WriteString_df1e_ty R) (hrec_json_write_9953 : json_write_9953_ty R) (json_write_1_20be : json_write_1_20be_ty R) : Env R := fun i => match i with
  | 46 => some (true, (specBy decimal_Print_p decimal_Print_q (decimal_Print_rr decimal_Print) specNo))
  | 50 => some (false, (specBy strings_Builder_WriteByte_4b84_p strings_Builder_WriteByte_4b84_q (strings_Builder_WriteByte_4b84_rr strings_Builder_WriteByte_4b84) specNo))
  | 52 => some (false, (specBy strings_Builder_WriteString_df1e_p strings_Builder_WriteString_df1e_q (strings_Builder_WriteString_df1e_rr strings_Builder_WriteString_df1e) specNo))
  | 38 => some (false, (specBy json_write_9953_p json_write_9953_q (json_write_9953_rr hrec_json_write_9953) specNo))
  | 61 => some (false, (specBy json_write_1_20be_p json_write_1_20be_q (json_write_1_20be_rr json_write_1_20be) specNo))
  | _ => none
theorem json_write_9953_EOk (R : Type) (hrec_json_write_9953 : json_write_9953_ty R) (hyp_json_write_9953 : Yard.Spec.Ok Tryz.prog 38 (specBy json_write_9953_p json_write_9953_q (json_write_9953_rr hrec_json_write_9953) specNo)) : EOk Tryz.prog (json_write_9953_E R decimal_Print strings_Builder_WriteByte_4b84 strings_Builder_WriteString_df1e hrec_json_write_9953 json_write_1_20be) := by
  intro i b sp h
  unfold json_write_9953_E at h
  split at h
  · cases h; exact ⟨(decimal_Print_S_ok R _ (specNo_ok _)), fun h => nomatch h⟩
  · cases h; exact ⟨(strings_Builder_WriteByte_4b84_S_ok R _ (specNo_ok _)), fun _ h => nomatch h⟩
  · cases h; exact ⟨(strings_Builder_WriteString_df1e_S_ok R _ (specNo_ok _)), fun _ h => nomatch h⟩
  · cases h; exact ⟨hyp_json_write_9953, fun _ h => nomatch h⟩
  · cases h; exact ⟨(json_write_1_20be_S_ok R _ (specNo_ok _)), fun _ h => nomatch h⟩
  · cases h

noncomputable def json_write_9953_18_0_B {R : Type} (strings_Builder_WriteByte_4b84 : strings_Builder_WriteByte_4b84_ty R) (hrec_json_write_9953 : json_write_9953_ty R) (json_write_1_20be : json_write_1_20be_ty R) (rec' : Str → (List Json) → Int → Int → (List Int) → Json → Option R) (x15 : Str) (x16 : List Json) (x17 : Int) (x18 : Int) (x19 : List Int) (x20 : Json) (e0 : Str → (List Int) → Option R) : Option R :=
  bif (decide (x18 < x17)) then (chk (decide ((0 : Int) ≤ x18) && decide (x18 < x16.length)) (bif (decide (x18 > (0 : Int))) then (strings_Builder_WriteByte_4b84 44 x19 (fun y21 => bif (x20.kind == 7) then (chk (decide ((0 : Int) ≤ x18) && decide (x18 < x20.names.length)) (json_write_1_20be (x20.names.getD x18.toNat (Ty.dflt .str)) y21 (fun y22 => strings_Builder_WriteByte_4b84 58 y22 (fun y23 => hrec_json_write_9953 (⟨(x16.getD x18.toNat (Ty.dflt .json)).kind, ⟨(x16.getD x18.toNat (Ty.dflt .json)).num.mant, (x16.getD x18.toNat (Ty.dflt .json)).num.exp⟩, (x16.getD x18.toNat (Ty.dflt .json)).text, (x16.getD x18.toNat (Ty.dflt .json)).names, (x16.getD x18.toNat (Ty.dflt .json)).items⟩ : Json) y23 (fun y24 => rec' x15 x16 x17 (IntKind.i64.wrap (x18 + 1)) y24 (⟨x20.kind, ⟨x20.num.mant, x20.num.exp⟩, x20.text, x20.names, x20.items⟩ : Json)))))) else (hrec_json_write_9953 (⟨(x16.getD x18.toNat (Ty.dflt .json)).kind, ⟨(x16.getD x18.toNat (Ty.dflt .json)).num.mant, (x16.getD x18.toNat (Ty.dflt .json)).num.exp⟩, (x16.getD x18.toNat (Ty.dflt .json)).text, (x16.getD x18.toNat (Ty.dflt .json)).names, (x16.getD x18.toNat (Ty.dflt .json)).items⟩ : Json) y21 (fun y25 => rec' x15 x16 x17 (IntKind.i64.wrap (x18 + 1)) y25 (⟨x20.kind, ⟨x20.num.mant, x20.num.exp⟩, x20.text, x20.names, x20.items⟩ : Json))))) else (bif (x20.kind == 7) then (chk (decide ((0 : Int) ≤ x18) && decide (x18 < x20.names.length)) (json_write_1_20be (x20.names.getD x18.toNat (Ty.dflt .str)) x19 (fun y26 => strings_Builder_WriteByte_4b84 58 y26 (fun y27 => hrec_json_write_9953 (⟨(x16.getD x18.toNat (Ty.dflt .json)).kind, ⟨(x16.getD x18.toNat (Ty.dflt .json)).num.mant, (x16.getD x18.toNat (Ty.dflt .json)).num.exp⟩, (x16.getD x18.toNat (Ty.dflt .json)).text, (x16.getD x18.toNat (Ty.dflt .json)).names, (x16.getD x18.toNat (Ty.dflt .json)).items⟩ : Json) y27 (fun y28 => rec' x15 x16 x17 (IntKind.i64.wrap (x18 + 1)) y28 (⟨x20.kind, ⟨x20.num.mant, x20.num.exp⟩, x20.text, x20.names, x20.items⟩ : Json)))))) else (hrec_json_write_9953 (⟨(x16.getD x18.toNat (Ty.dflt .json)).kind, ⟨(x16.getD x18.toNat (Ty.dflt .json)).num.mant, (x16.getD x18.toNat (Ty.dflt .json)).num.exp⟩, (x16.getD x18.toNat (Ty.dflt .json)).text, (x16.getD x18.toNat (Ty.dflt .json)).names, (x16.getD x18.toNat (Ty.dflt .json)).items⟩ : Json) x19 (fun y29 => rec' x15 x16 x17 (IntKind.i64.wrap (x18 + 1)) y29 (⟨x20.kind, ⟨x20.num.mant, x20.num.exp⟩, x20.text, x20.names, x20.items⟩ : Json)))))) else (e0 x15 x19)
noncomputable def json_write_9953_18_0_L {R : Type} (hrec_json_write_9953 : json_write_9953_ty R) : json_write_9953_18_0_ty R
  | 0, _, _, _, _, _, _, _ => none
  | n + 1, x0', x1', x2', x3', x4', x5', e0 => json_write_9953_18_0_B strings_Builder_WriteByte_4b84 hrec_json_write_9953 json_write_1_20be (fun x0' x1' x2' x3' x4' x5' => json_write_9953_18_0_L hrec_json_write_9953 n x0' x1' x2' x3' x4' x5' e0) x0' x1' x2' x3' x4' x5' e0
noncomputable def json_write_9953_18_0_h : Hint := { live := [2, 3, 4, 5, 43, 44, 45], own := [], rows := [], cells := [], drop := [], out := [2, 5] }
abbrev json_write_9953_18_0_D : Type := Str × (List Json) × Int × Int × (List Int) × Json
noncomputable def json_write_9953_18_0_enc : json_write_9953_18_0_D → St := fun d => ⟨[.undef, .undef, .ptr 2 0, .ptr 3 0, .func 61 [] [.ptr 2 0], .str d.1, .undef, .undef, .undef, .undef, .undef, .undef, .undef, .undef, .undef, .undef, .undef, .undef, .undef, .undef, .undef, .undef, .undef, .undef, .undef, .undef, .undef, .undef, .undef, .undef, .undef, .undef, .undef, .undef, .undef, .undef, .undef, .undef, .undef, .undef, .undef, .undef, .undef, .sl .json d.2.1 .no, .int .i64 d.2.2.1, .int .i64 d.2.2.2.1, .undef, .undef, .undef, .undef, .undef, .undef, .undef, .undef, .undef, .undef, .undef, .undef, .undef, .undef, .undef, .undef, .undef, .undef, .undef, .undef, .undef, .undef, .undef, .undef, .undef, .undef, .undef, .undef], [.bld (.sl (.int .u8) d.2.2.2.2.1 (.own 4)), .dead, .cells [.ptr 0 0], .cells [.int .i64 d.2.2.2.2.2.kind, .int .i64 d.2.2.2.2.2.num.mant, .int .i64 d.2.2.2.2.2.num.exp, .str d.2.2.2.2.2.text, .sl .str d.2.2.2.2.2.names .no, .sl .json d.2.2.2.2.2.items .no], .tok]⟩
noncomputable def json_write_9953_18_0_x0 {R : Type} (K : Ex → St → Option R) (q0 : Str) (q1 : List Int) : Option R := K (.exit 1) ⟨[.undef, .undef, .ptr 2 0, .undef, .undef, .str q0, .undef, .undef, .undef, .undef, .undef, .undef, .undef, .undef, .undef, .undef, .undef, .undef, .undef, .undef, .undef, .undef, .undef, .undef, .undef, .undef, .undef, .undef, .undef, .undef, .undef, .undef, .undef, .undef, .undef, .undef, .undef, .undef, .undef, .undef, .undef, .undef, .undef, .undef, .undef, .undef, .undef, .undef, .undef, .undef, .undef, .undef, .undef, .undef, .undef, .undef, .undef, .undef, .undef, .undef, .undef, .undef, .undef, .undef, .undef, .undef, .undef, .undef, .undef, .undef, .undef, .undef, .undef, .undef], [.bld (.sl (.int .u8) q1 (.own 3)), .dead, .cells [.ptr 0 0], .tok]⟩
noncomputable def json_write_9953_18_0_s {R : Type} (strings_Builder_WriteByte_4b84 : strings_Builder_WriteByte_4b84_ty R) (hrec_json_write_9953 : json_write_9953_ty R) (json_write_1_20be : json_write_1_20be_ty R) (K : Ex → St → Option R) (rc : json_write_9953_18_0_D → Option R) (d : json_write_9953_18_0_D) : Option R := json_write_9953_18_0_B strings_Builder_WriteByte_4b84 hrec_json_write_9953 json_write_1_20be (fun z0 z1 z2 z3 z4 z5 => rc (z0, z1, z2, z3, z4, z5)) d.1 d.2.1 d.2.2.1 d.2.2.2.1 d.2.2.2.2.1 d.2.2.2.2.2 (json_write_9953_18_0_x0 K)
noncomputable def json_write_9953_18_0_A {R : Type} (hrec_json_write_9953 : json_write_9953_ty R) (K : Ex → St → Option R) (n : Nat) (d : json_write_9953_18_0_D) : Option R := json_write_9953_18_0_L hrec_json_write_9953 n d.1 d.2.1 d.2.2.1 d.2.2.2.1 d.2.2.2.2.1 d.2.2.2.2.2 (json_write_9953_18_0_x0 K)
abbrev json_write_9953_18_0_p : List Pat := [.leaf (.undef), .leaf (.undef), .leaf (.ptr 2 0), .leaf (.ptr 3 0), .func 61 [] [.ptr 2 0], .leaf (.str), .leaf (.undef), .leaf (.undef), .leaf (.undef), .leaf (.undef), .leaf (.undef), .leaf (.undef), .leaf (.undef), .leaf (.undef), .leaf (.undef), .leaf (.undef), .leaf (.undef), .leaf (.undef), .leaf (.undef), .leaf (.undef), .leaf (.undef), .leaf (.undef), .leaf (.undef), .leaf (.undef), .leaf (.undef), .leaf (.undef), .leaf (.undef), .leaf (.undef), .leaf (.undef), .leaf (.undef), .leaf (.undef), .leaf (.undef), .leaf (.undef), .leaf (.undef), .leaf (.undef), .leaf (.undef), .leaf (.undef), .leaf (.undef), .leaf (.undef), .leaf (.undef), .leaf (.undef), .leaf (.undef), .leaf (.undef), .leaf (.sl .json), .leaf (.int .i64), .leaf (.int .i64), .leaf (.undef), .leaf (.undef), .leaf (.undef), .leaf (.undef), .leaf (.undef), .leaf (.undef), .leaf (.undef), .leaf (.undef), .leaf (.undef), .leaf (.undef), .leaf (.undef), .leaf (.undef), .leaf (.undef), .leaf (.undef), .leaf (.undef), .leaf (.undef), .leaf (.undef), .leaf (.undef), .leaf (.undef), .leaf (.undef), .leaf (.undef), .leaf (.undef), .leaf (.undef), .leaf (.undef), .leaf (.undef), .leaf (.undef), .leaf (.undef), .leaf (.undef)]
abbrev json_write_9953_18_0_q : List HPat := [.bld (.slo (.int .u8) 4), .dead, .cells [.ptr 0 0], .cells [.int .i64, .int .i64, .int .i64, .str, .sl .str, .sl .json], .tok]
noncomputable def json_write_9953_18_0_f (x : Pat.dens json_write_9953_18_0_p) (y : HPat.dens json_write_9953_18_0_q) : Nat := (List.length x.2.2.2.2.2.1 + List.length x.2.2.2.2.2.2.2.2.2.2.2.2.2.2.2.2.2.2.2.2.2.2.2.2.2.2.2.2.2.2.2.2.2.2.2.2.2.2.2.2.2.2.2.1 + Int.natAbs x.2.2.2.2.2.2.2.2.2.2.2.2.2.2.2.2.2.2.2.2.2.2.2.2.2.2.2.2.2.2.2.2.2.2.2.2.2.2.2.2.2.2.2.2.1 + Int.natAbs x.2.2.2.2.2.2.2.2.2.2.2.2.2.2.2.2.2.2.2.2.2.2.2.2.2.2.2.2.2.2.2.2.2.2.2.2.2.2.2.2.2.2.2.2.2.1 + List.length y.1 + Json.fu (⟨y.2.2.2.1.1, ⟨y.2.2.2.1.2.1, y.2.2.2.1.2.2.1⟩, y.2.2.2.1.2.2.2.1, y.2.2.2.1.2.2.2.2.1, y.2.2.2.1.2.2.2.2.2.1⟩ : Json) + 64)
noncomputable def json_write_9953_18_0_d (x : Pat.dens json_write_9953_18_0_p) (y : HPat.dens json_write_9953_18_0_q) : json_write_9953_18_0_D := (x.2.2.2.2.2.1, x.2.2.2.2.2.2.2.2.2.2.2.2.2.2.2.2.2.2.2.2.2.2.2.2.2.2.2.2.2.2.2.2.2.2.2.2.2.2.2.2.2.2.2.1, x.2.2.2.2.2.2.2.2.2.2.2.2.2.2.2.2.2.2.2.2.2.2.2.2.2.2.2.2.2.2.2.2.2.2.2.2.2.2.2.2.2.2.2.2.1, x.2.2.2.2.2.2.2.2.2.2.2.2.2.2.2.2.2.2.2.2.2.2.2.2.2.2.2.2.2.2.2.2.2.2.2.2.2.2.2.2.2.2.2.2.2.1, y.1, (⟨y.2.2.2.1.1, ⟨y.2.2.2.1.2.1, y.2.2.2.1.2.2.1⟩, y.2.2.2.1.2.2.2.1, y.2.2.2.1.2.2.2.2.1, y.2.2.2.1.2.2.2.2.2.1⟩ : Json))
noncomputable def json_write_9953_18_0_rr {R : Type} (L : json_write_9953_18_0_ty R) : Pat.dens json_write_9953_18_0_p → HPat.dens json_write_9953_18_0_q → (Ex → St → Option R) → Option R := fun x y K => L (json_write_9953_18_0_f x y) x.2.2.2.2.2.1 x.2.2.2.2.2.2.2.2.2.2.2.2.2.2.2.2.2.2.2.2.2.2.2.2.2.2.2.2.2.2.2.2.2.2.2.2.2.2.2.2.2.2.2.1 x.2.2.2.2.2.2.2.2.2.2.2.2.2.2.2.2.2.2.2.2.2.2.2.2.2.2.2.2.2.2.2.2.2.2.2.2.2.2.2.2.2.2.2.2.1 x.2.2.2.2.2.2.2.2.2.2.2.2.2.2.2.2.2.2.2.2.2.2.2.2.2.2.2.2.2.2.2.2.2.2.2.2.2.2.2.2.2.2.2.2.2.1 y.1 (⟨y.2.2.2.1.1, ⟨y.2.2.2.1.2.1, y.2.2.2.1.2.2.1⟩, y.2.2.2.1.2.2.2.1, y.2.2.2.1.2.2.2.2.1, y.2.2.2.1.2.2.2.2.2.1⟩ : Json) (json_write_9953_18_0_x0 K)
noncomputable def json_write_9953_T (R : Type) (json_write_9953_18_0_L : json_write_9953_18_0_ty R) : Nat → Option (Hint × LSpec R) := fun i => match i with
  | 18 => some (json_write_9953_18_0_h, (loopBy json_write_9953_18_0_p json_write_9953_18_0_q (json_write_9953_18_0_rr json_write_9953_18_0_L) loopNo))
  | _ => none

theorem json_write_9953_18_0_B_ok {R : Type} (decimal_Print : decimal_Print_ty R) (strings_Builder_WriteByte_4b84 : strings_Builder_WriteByte_4b84_ty R) (strings_Builder_WriteString_df1e : strings_Builder_WriteString_df1e_ty R) (hrec_json_write_9953 : json_write_9953_ty R) (json_write_1_20be : json_write_1_20be_ty R) (json_write_9953_18_0_L : json_write_9953_18_0_ty R) (K : Ex → St → Option R) (rc : St → Option R) (d : json_write_9953_18_0_D) : roundOf tt (json_write_9953_E R decimal_Print strings_Builder_WriteByte_4b84 strings_Builder_WriteString_df1e hrec_json_write_9953 json_write_1_20be) (json_write_9953_T R json_write_9953_18_0_L) 2 ((loopsOf (codeOf Tryz.f38)).getD 0 .skip) json_write_9953_18_0_h (json_write_9953_18_0_enc d) rc K = json_write_9953_18_0_s strings_Builder_WriteByte_4b84 hrec_json_write_9953 json_write_1_20be K (fun d => rc (json_write_9953_18_0_enc d)) d := by kernel_rfl
theorem json_write_9953_18_0_A_succ {R : Type} (hrec_json_write_9953 : json_write_9953_ty R) (K : Ex → St → Option R) (n : Nat) (d : json_write_9953_18_0_D) : json_write_9953_18_0_A hrec_json_write_9953 K (n + 1) d = json_write_9953_18_0_s strings_Builder_WriteByte_4b84 hrec_json_write_9953 json_write_1_20be K (json_write_9953_18_0_A hrec_json_write_9953 K n) d := by kernel_rfl
theorem json_write_9953_18_0_A_zero {R : Type} (hrec_json_write_9953 : json_write_9953_ty R) (K : Ex → St → Option R) (d : json_write_9953_18_0_D) : json_write_9953_18_0_A hrec_json_write_9953 K 0 d = none := by kernel_rfl
theorem json_write_9953_18_0_e_ok (x : Pat.dens json_write_9953_18_0_p) (y : HPat.dens json_write_9953_18_0_q) : (⟨Pat.encL json_write_9953_18_0_p x, HPat.encL json_write_9953_18_0_q y⟩ : St) = json_write_9953_18_0_enc (json_write_9953_18_0_d x y) := by kernel_rfl
theorem json_write_9953_18_0_r_ok {R : Type} (hrec_json_write_9953 : json_write_9953_ty R) (x : Pat.dens json_write_9953_18_0_p) (y : HPat.dens json_write_9953_18_0_q) (K : Ex → St → Option R) : json_write_9953_18_0_rr (json_write_9953_18_0_L hrec_json_write_9953) x y K = json_write_9953_18_0_A hrec_json_write_9953 K (json_write_9953_18_0_f x y) (json_write_9953_18_0_d x y) := by kernel_rfl
theorem json_write_9953_18_0_ok {R : Type} (hrec_json_write_9953 : json_write_9953_ty R) (other : LSpec R) (ho : LsOk tt (json_write_9953_E R decimal_Print strings_Builder_WriteByte_4b84 strings_Builder_WriteString_df1e hrec_json_write_9953 json_write_1_20be) (json_write_9953_T R (json_write_9953_18_0_L hrec_json_write_9953)) 2 ((loopsOf (codeOf Tryz.f38)).getD 0 .skip) json_write_9953_18_0_h other) : LsOk tt (json_write_9953_E R decimal_Print strings_Builder_WriteByte_4b84 strings_Builder_WriteString_df1e hrec_json_write_9953 json_write_1_20be) (json_write_9953_T R (json_write_9953_18_0_L hrec_json_write_9953)) 2 ((loopsOf (codeOf Tryz.f38)).getD 0 .skip) json_write_9953_18_0_h (loopBy json_write_9953_18_0_p json_write_9953_18_0_q (json_write_9953_18_0_rr (json_write_9953_18_0_L hrec_json_write_9953)) other) :=
  loopBy_tie (A := json_write_9953_18_0_A hrec_json_write_9953) ho (loop_tie json_write_9953_18_0_enc (json_write_9953_18_0_s strings_Builder_WriteByte_4b84 hrec_json_write_9953 json_write_1_20be) (json_write_9953_18_0_A hrec_json_write_9953) (json_write_9953_18_0_A_zero hrec_json_write_9953) (json_write_9953_18_0_B_ok decimal_Print strings_Builder_WriteByte_4b84 strings_Builder_WriteString_df1e hrec_json_write_9953 json_write_1_20be (json_write_9953_18_0_L hrec_json_write_9953)) (json_write_9953_18_0_A_succ hrec_json_write_9953)) json_write_9953_18_0_f json_write_9953_18_0_d json_write_9953_18_0_e_ok (json_write_9953_18_0_r_ok hrec_json_write_9953)

noncomputable def json_write_9953_X {R : Type} (decimal_Print : decimal_Print_ty R) (strings_Builder_WriteByte_4b84 : strings_Builder_WriteByte_4b84_ty R) (strings_Builder_WriteString_df1e : strings_Builder_WriteString_df1e_ty R) (json_write_1_20be : json_write_1_20be_ty R) (json_write_9953_18_0_L : json_write_9953_18_0_ty R) (x1 : Json) (x2 : List Int) (k0 : (List Int) → Option R) : Option R :=
  let j33 := fun (z13 : Str) => chk (decide ((0 : Int) < z13.length)) (strings_Builder_WriteByte_4b84 ((z13.getD 0 0).toNat : Int) x2 (fun y14 => json_write_9953_18_0_L (List.length z13 + List.length x1.items + Int.natAbs (x1.items.length : Int) + Int.natAbs 0 + List.length y14 + Json.fu (⟨x1.kind, ⟨x1.num.mant, x1.num.exp⟩, x1.text, x1.names, x1.items⟩ : Json) + 64) z13 x1.items (x1.items.length : Int) 0 y14 (⟨x1.kind, ⟨x1.num.mant, x1.num.exp⟩, x1.text, x1.names, x1.items⟩ : Json) (fun y30 y31 => chk (decide ((1 : Int) < y30.length)) (strings_Builder_WriteByte_4b84 ((y30.getD 1 0).toNat : Int) y31 (fun y32 => k0 y32))))); bif (x1.kind == 1) then (strings_Builder_WriteString_df1e ([110, 117, 108, 108] : Str) x2 (fun y3 y4 => k0 y4)) else (bif (x1.kind == 2) then (strings_Builder_WriteString_df1e ([102, 97, 108, 115, 101] : Str) x2 (fun y5 y6 => k0 y6)) else (bif (x1.kind == 3) then (strings_Builder_WriteString_df1e ([116, 114, 117, 101] : Str) x2 (fun y7 y8 => k0 y8)) else (bif (x1.kind == 4) then (decimal_Print x1.num (fun y9 => strings_Builder_WriteString_df1e y9 x2 (fun y10 y11 => k0 y11))) else (bif (x1.kind == 5) then (json_write_1_20be x1.text x2 (fun y12 => k0 y12)) else (bif (x1.kind == 7) then (j33 ([123, 125] : Str)) else (j33 ([91, 93] : Str)))))))
noncomputable def json_write_9953_B {R : Type} (hrec_json_write_9953 : json_write_9953_ty R) : json_write_9953_ty R := fun x1 x2 k0 => json_write_9953_X decimal_Print strings_Builder_WriteByte_4b84 strings_Builder_WriteString_df1e json_write_1_20be (json_write_9953_18_0_L hrec_json_write_9953) x1 x2 k0
theorem json_write_9953_ok {R : Type} (decimal_Print : decimal_Print_ty R) (strings_Builder_WriteByte_4b84 : strings_Builder_WriteByte_4b84_ty R) (strings_Builder_WriteString_df1e : strings_Builder_WriteString_df1e_ty R) (hrec_json_write_9953 : json_write_9953_ty R) (json_write_1_20be : json_write_1_20be_ty R) (json_write_9953_18_0_L : json_write_9953_18_0_ty R) (x1 : Json) (x2 : List Int) (k : V → Heap → Option R) : funK tt (json_write_9953_E R decimal_Print strings_Builder_WriteByte_4b84 strings_Builder_WriteString_df1e hrec_json_write_9953 json_write_1_20be) (json_write_9953_T R json_write_9953_18_0_L) false Tryz.f38 (codeOf Tryz.f38) [.ptr 0 0, .agg [.int .i64 x1.kind, .int .i64 x1.num.mant, .int .i64 x1.num.exp, .str x1.text, .sl .str x1.names .no, .sl .json x1.items .no]] [.bld (.sl (.int .u8) x2 (.own 1)), .tok] k =
    json_write_9953_X decimal_Print strings_Builder_WriteByte_4b84 strings_Builder_WriteString_df1e json_write_1_20be json_write_9953_18_0_L x1 x2 (fun q0 => k (.tuple []) [.bld (.sl (.int .u8) q0 (.own 2)), .dead, .tok]) := by kernel_rfl
theorem json_write_9953_loops (R : Type) (hrec_json_write_9953 : json_write_9953_ty R) : ∀ a ∈ loopsOf (codeOf Tryz.f38), LoopOk tt (json_write_9953_E R decimal_Print strings_Builder_WriteByte_4b84 strings_Builder_WriteString_df1e hrec_json_write_9953 json_write_1_20be) (json_write_9953_T R (json_write_9953_18_0_L hrec_json_write_9953)) 2 a := by
  refine loops_ok 1 (by kernel_rfl) fun i hi => ?_
  match i, hi with
  | 0, _ => exact loopOk_some (by kernel_rfl) (json_write_9953_18_0_ok hrec_json_write_9953 _ loopNo_ok)
  | n + 1, hi => omega
theorem json_write_9953_S_okB (R : Type) (hrec_json_write_9953 : json_write_9953_ty R) (hyp_json_write_9953 : Yard.Spec.Ok Tryz.prog 38 (specBy json_write_9953_p json_write_9953_q (json_write_9953_rr hrec_json_write_9953) specNo)) (other : Yard.Spec R) (ho : Yard.Spec.Ok Tryz.prog 38 other) : Yard.Spec.Ok Tryz.prog 38 (specBy json_write_9953_p json_write_9953_q (json_write_9953_rr (json_write_9953_B hrec_json_write_9953)) other) :=
  specBy_ok ho (funK_sound TT mixed (json_write_9953_EOk R hrec_json_write_9953 hyp_json_write_9953) (keep := false) rfl rfl rfl rfl 2 (json_write_9953_loops R hrec_json_write_9953)) fun (x : Pat.dens json_write_9953_p) (y : HPat.dens json_write_9953_q) k => json_write_9953_ok decimal_Print strings_Builder_WriteByte_4b84 strings_Builder_WriteString_df1e hrec_json_write_9953 json_write_1_20be (json_write_9953_18_0_L hrec_json_write_9953) (⟨x.2.1.1, ⟨x.2.1.2.1, x.2.1.2.2.1⟩, x.2.1.2.2.2.1, x.2.1.2.2.2.2.1, x.2.1.2.2.2.2.2.1⟩ : Json) y.1 k
noncomputable def json_write_9953_N {R : Type} : Nat → json_write_9953_ty R
  | 0, _, _, _ => none
  | n + 1, x0', x1', k0' => json_write_9953_B (json_write_9953_N n) x0' x1' k0'
theorem json_write_9953_N_succ {R : Type} (n : Nat) : json_write_9953_N (R := R) (n + 1) = json_write_9953_B (json_write_9953_N n) := by kernel_rfl
theorem json_write_9953_N_ok (R : Type) : ∀ n, Yard.Spec.Ok Tryz.prog 38 (specBy json_write_9953_p json_write_9953_q (json_write_9953_rr (json_write_9953_N (R := R) n)) specNo) :=
  specBy_fuel (run := fun n => json_write_9953_rr (json_write_9953_N (R := R) n)) (fun x y k => by kernel_rfl) fun n hyp => json_write_9953_S_okB R (json_write_9953_N n) hyp specNo (specNo_ok _)
noncomputable def json_write_9953 {R : Type} : json_write_9953_ty R := fun x1 x2 k0 => json_write_9953_N (Json.depth x1 + 2) x1 x2 k0
theorem json_write_9953_r_ok (R : Type) : json_write_9953_rr (R := R) json_write_9953 = fun x y k => json_write_9953_rr (json_write_9953_N (Json.depth (⟨x.2.1.1, ⟨x.2.1.2.1, x.2.1.2.2.1⟩, x.2.1.2.2.2.1, x.2.1.2.2.2.2.1, x.2.1.2.2.2.2.2.1⟩ : Json) + 2)) x y k := by kernel_rfl
theorem json_write_9953_S_ok (R : Type) (other : Yard.Spec R) (ho : Yard.Spec.Ok Tryz.prog 38 other) : Yard.Spec.Ok Tryz.prog 38 (specBy json_write_9953_p json_write_9953_q (json_write_9953_rr json_write_9953) other) :=
  specBy_run (specBy_at (run := fun n => json_write_9953_rr (json_write_9953_N (R := R) n)) (fun x y => (Json.depth (⟨x.2.1.1, ⟨x.2.1.2.1, x.2.1.2.2.1⟩, x.2.1.2.2.2.1, x.2.1.2.2.2.2.1, x.2.1.2.2.2.2.2.1⟩ : Json) + 2)) ho (json_write_9953_N_ok R)) (json_write_9953_r_ok R)

end Go.Proofs.YtmlkkgfenfdndaaGreatDoor

/-
  Functions of the program as pure Lean functions, and the ties; printed by wip/tools/emit.py.
-/
set_option maxRecDepth 100000
set_option linter.unusedVariables false
namespace Go.Proofs.YtmlkkgfenfdndaaGreatDoor
open Go Go.Yard

/-! ### humpyard/json.write -/
abbrev json_write_e5b6_ty (R : Type) : Type := Json → ((List Int) → Option R) → Option R
abbrev json_write_e5b6_p : List Pat := [.leaf (.ptr 0 0), .agg [.int .i64, .int .i64, .int .i64, .str, .sl .str, .sl .json]]
abbrev json_write_e5b6_q : List HPat := [.bld (.nilsl)]
noncomputable def json_write_e5b6_rr {R : Type} (fn : json_write_e5b6_ty R) : Pat.dens json_write_e5b6_p → HPat.dens json_write_e5b6_q → (V → Heap → Option R) → Option R := fun x y k => fn (⟨x.2.1.1, ⟨x.2.1.2.1, x.2.1.2.2.1⟩, x.2.1.2.2.2.1, x.2.1.2.2.2.2.1, x.2.1.2.2.2.2.2.1⟩ : Json) (fun q0 => k (.tuple []) [.bld (.sl (.int .u8) q0 (.own 1)), .tok])
abbrev json_write_e5b6_18_0_ty (R : Type) : Type := Nat → Str → (List Json) → Int → Int → (List Int) → Json → (Str → (List Int) → Option R) → Option R
noncomputable def json_write_e5b6_E (R : Type) (decimal_Print : decimal_Print_ty R) (strings_Builder_WriteByte_b66c : strings_Builder_WriteByte_b66c_ty R) (strings_Builder_WriteByte_4b84 : strings_Builder_WriteByte_4b84_ty R) (strings_Builder_WriteString_fb8e : strings_Builder_WriteString_fb8e_ty R) (json_write_9953 : json_write_9953_ty R) (json_write_1_c8fa : json_write_1_c8fa_ty R) (json_write_1_20be : json_write_1_20be_ty R) : Env R := fun i => match i with
  | 46 => some (true, (specBy decimal_Print_p decimal_Print_q (decimal_Print_rr decimal_Print) specNo))
  | 50 => some (false, (specBy strings_Builder_WriteByte_4b84_p strings_Builder_WriteByte_4b84_q (strings_Builder_WriteByte_4b84_rr strings_Builder_WriteByte_4b84) (specBy strings_Builder_WriteByte_b66c_p strings_Builder_WriteByte_b66c_q (strings_Builder_WriteByte_b66c_rr strings_Builder_WriteByte_b66c) specNo)))
  | 52 => some (false, (specBy strings_Builder_WriteString_fb8e_p strings_Builder_WriteString_fb8e_q (strings_Builder_WriteString_fb8e_rr strings_Builder_WriteString_fb8e) specNo))
  | 38 => some (false, (specBy json_write_9953_p json_write_9953_q (json_write_9953_rr json_write_9953) specNo))
  | 61 => some (false, (specBy json_write_1_20be_p json_write_1_20be_q (json_write_1_20be_rr json_write_1_20be) (specBy json_write_1_c8fa_p json_write_1_c8fa_q (json_write_1_c8fa_rr json_write_1_c8fa) specNo)))
  | _ => none
theorem json_write_e5b6_EOk (R : Type) : EOk Tryz.prog (json_write_e5b6_E R decimal_Print strings_Builder_WriteByte_b66c strings_Builder_WriteByte_4b84 strings_Builder_WriteString_fb8e json_write_9953 json_write_1_c8fa json_write_1_20be) := by
  intro i b sp h
  unfold json_write_e5b6_E at h
  split at h
  · cases h; exact ⟨(decimal_Print_S_ok R _ (specNo_ok _)), fun h => nomatch h⟩
  · cases h; exact ⟨(strings_Builder_WriteByte_4b84_S_ok R _ (strings_Builder_WriteByte_b66c_S_ok R _ (specNo_ok _))), fun _ h => nomatch h⟩
  · cases h; exact ⟨(strings_Builder_WriteString_fb8e_S_ok R _ (specNo_ok _)), fun _ h => nomatch h⟩
  · cases h; exact ⟨(json_write_9953_S_ok R _ (specNo_ok _)), fun _ h => nomatch h⟩
  · cases h; exact ⟨(json_write_1_20be_S_ok R _ (json_write_1_c8fa_S_ok R _ (specNo_ok _))), fun _ h => nomatch h⟩
  · cases h

noncomputable def json_write_e5b6_18_0_B {R : Type} (strings_Builder_WriteByte_4b84 : strings_Builder_WriteByte_4b84_ty R) (json_write_9953 : json_write_9953_ty R) (json_write_1_20be : json_write_1_20be_ty R) (rec' : Str → (List Json) → Int → Int → (List Int) → Json → Option R) (x14 : Str) (x15 : List Json) (x16 : Int) (x17 : Int) (x18 : List Int) (x19 : Json) (e0 : Str → (List Int) → Option R) : Option R :=
  bif (decide (x17 < x16)) then (chk (decide ((0 : Int) ≤ x17) && decide (x17 < x15.length)) (bif (decide (x17 > (0 : Int))) then (strings_Builder_WriteByte_4b84 44 x18 (fun y20 => bif (x19.kind == 7) then (chk (decide ((0 : Int) ≤ x17) && decide (x17 < x19.names.length)) (json_write_1_20be (x19.names.getD x17.toNat (Ty.dflt .str)) y20 (fun y21 => strings_Builder_WriteByte_4b84 58 y21 (fun y22 => json_write_9953 (⟨(x15.getD x17.toNat (Ty.dflt .json)).kind, ⟨(x15.getD x17.toNat (Ty.dflt .json)).num.mant, (x15.getD x17.toNat (Ty.dflt .json)).num.exp⟩, (x15.getD x17.toNat (Ty.dflt .json)).text, (x15.getD x17.toNat (Ty.dflt .json)).names, (x15.getD x17.toNat (Ty.dflt .json)).items⟩ : Json) y22 (fun y23 => rec' x14 x15 x16 (IntKind.i64.wrap (x17 + 1)) y23 (⟨x19.kind, ⟨x19.num.mant, x19.num.exp⟩, x19.text, x19.names, x19.items⟩ : Json)))))) else (json_write_9953 (⟨(x15.getD x17.toNat (Ty.dflt .json)).kind, ⟨(x15.getD x17.toNat (Ty.dflt .json)).num.mant, (x15.getD x17.toNat (Ty.dflt .json)).num.exp⟩, (x15.getD x17.toNat (Ty.dflt .json)).text, (x15.getD x17.toNat (Ty.dflt .json)).names, (x15.getD x17.toNat (Ty.dflt .json)).items⟩ : Json) y20 (fun y24 => rec' x14 x15 x16 (IntKind.i64.wrap (x17 + 1)) y24 (⟨x19.kind, ⟨x19.num.mant, x19.num.exp⟩, x19.text, x19.names, x19.items⟩ : Json))))) else (bif (x19.kind == 7) then (chk (decide ((0 : Int) ≤ x17) && decide (x17 < x19.names.length)) (json_write_1_20be (x19.names.getD x17.toNat (Ty.dflt .str)) x18 (fun y25 => strings_Builder_WriteByte_4b84 58 y25 (fun y26 => json_write_9953 (⟨(x15.getD x17.toNat (Ty.dflt .json)).kind, ⟨(x15.getD x17.toNat (Ty.dflt .json)).num.mant, (x15.getD x17.toNat (Ty.dflt .json)).num.exp⟩, (x15.getD x17.toNat (Ty.dflt .json)).text, (x15.getD x17.toNat (Ty.dflt .json)).names, (x15.getD x17.toNat (Ty.dflt .json)).items⟩ : Json) y26 (fun y27 => rec' x14 x15 x16 (IntKind.i64.wrap (x17 + 1)) y27 (⟨x19.kind, ⟨x19.num.mant, x19.num.exp⟩, x19.text, x19.names, x19.items⟩ : Json)))))) else (json_write_9953 (⟨(x15.getD x17.toNat (Ty.dflt .json)).kind, ⟨(x15.getD x17.toNat (Ty.dflt .json)).num.mant, (x15.getD x17.toNat (Ty.dflt .json)).num.exp⟩, (x15.getD x17.toNat (Ty.dflt .json)).text, (x15.getD x17.toNat (Ty.dflt .json)).names, (x15.getD x17.toNat (Ty.dflt .json)).items⟩ : Json) x18 (fun y28 => rec' x14 x15 x16 (IntKind.i64.wrap (x17 + 1)) y28 (⟨x19.kind, ⟨x19.num.mant, x19.num.exp⟩, x19.text, x19.names, x19.items⟩ : Json)))))) else (e0 x14 x18)
noncomputable def json_write_e5b6_18_0_L {R : Type} : json_write_e5b6_18_0_ty R
  | 0, _, _, _, _, _, _, _ => none
  | n + 1, x0', x1', x2', x3', x4', x5', e0 => json_write_e5b6_18_0_B strings_Builder_WriteByte_4b84 json_write_9953 json_write_1_20be (fun x0' x1' x2' x3' x4' x5' => json_write_e5b6_18_0_L n x0' x1' x2' x3' x4' x5' e0) x0' x1' x2' x3' x4' x5' e0
noncomputable def json_write_e5b6_18_0_h : Hint := { live := [2, 3, 4, 5, 43, 44, 45], own := [], rows := [], cells := [], drop := [], out := [2, 5] }
abbrev json_write_e5b6_18_0_D : Type := Str × (List Json) × Int × Int × (List Int) × Json
noncomputable def json_write_e5b6_18_0_enc : json_write_e5b6_18_0_D → St := fun d => ⟨[.undef, .undef, .ptr 1 0, .ptr 2 0, .func 61 [] [.ptr 1 0], .str d.1, .undef, .undef, .undef, .undef, .undef, .undef, .undef, .undef, .undef, .undef, .undef, .undef, .undef, .undef, .undef, .undef, .undef, .undef, .undef, .undef, .undef, .undef, .undef, .undef, .undef, .undef, .undef, .undef, .undef, .undef, .undef, .undef, .undef, .undef, .undef, .undef, .undef, .sl .json d.2.1 .no, .int .i64 d.2.2.1, .int .i64 d.2.2.2.1, .undef, .undef, .undef, .undef, .undef, .undef, .undef, .undef, .undef, .undef, .undef, .undef, .undef, .undef, .undef, .undef, .undef, .undef, .undef, .undef, .undef, .undef, .undef, .undef, .undef, .undef, .undef, .undef], [.bld (.sl (.int .u8) d.2.2.2.2.1 (.own 3)), .cells [.ptr 0 0], .cells [.int .i64 d.2.2.2.2.2.kind, .int .i64 d.2.2.2.2.2.num.mant, .int .i64 d.2.2.2.2.2.num.exp, .str d.2.2.2.2.2.text, .sl .str d.2.2.2.2.2.names .no, .sl .json d.2.2.2.2.2.items .no], .tok]⟩
noncomputable def json_write_e5b6_18_0_x0 {R : Type} (K : Ex → St → Option R) (q0 : Str) (q1 : List Int) : Option R := K (.exit 1) ⟨[.undef, .undef, .ptr 1 0, .undef, .undef, .str q0, .undef, .undef, .undef, .undef, .undef, .undef, .undef, .undef, .undef, .undef, .undef, .undef, .undef, .undef, .undef, .undef, .undef, .undef, .undef, .undef, .undef, .undef, .undef, .undef, .undef, .undef, .undef, .undef, .undef, .undef, .undef, .undef, .undef, .undef, .undef, .undef, .undef, .undef, .undef, .undef, .undef, .undef, .undef, .undef, .undef, .undef, .undef, .undef, .undef, .undef, .undef, .undef, .undef, .undef, .undef, .undef, .undef, .undef, .undef, .undef, .undef, .undef, .undef, .undef, .undef, .undef, .undef, .undef], [.bld (.sl (.int .u8) q1 (.own 2)), .cells [.ptr 0 0], .tok]⟩
noncomputable def json_write_e5b6_18_0_s {R : Type} (strings_Builder_WriteByte_4b84 : strings_Builder_WriteByte_4b84_ty R) (json_write_9953 : json_write_9953_ty R) (json_write_1_20be : json_write_1_20be_ty R) (K : Ex → St → Option R) (rc : json_write_e5b6_18_0_D → Option R) (d : json_write_e5b6_18_0_D) : Option R := json_write_e5b6_18_0_B strings_Builder_WriteByte_4b84 json_write_9953 json_write_1_20be (fun z0 z1 z2 z3 z4 z5 => rc (z0, z1, z2, z3, z4, z5)) d.1 d.2.1 d.2.2.1 d.2.2.2.1 d.2.2.2.2.1 d.2.2.2.2.2 (json_write_e5b6_18_0_x0 K)
noncomputable def json_write_e5b6_18_0_A {R : Type} (K : Ex → St → Option R) (n : Nat) (d : json_write_e5b6_18_0_D) : Option R := json_write_e5b6_18_0_L n d.1 d.2.1 d.2.2.1 d.2.2.2.1 d.2.2.2.2.1 d.2.2.2.2.2 (json_write_e5b6_18_0_x0 K)
abbrev json_write_e5b6_18_0_p : List Pat := [.leaf (.undef), .leaf (.undef), .leaf (.ptr 1 0), .leaf (.ptr 2 0), .func 61 [] [.ptr 1 0], .leaf (.str), .leaf (.undef), .leaf (.undef), .leaf (.undef), .leaf (.undef), .leaf (.undef), .leaf (.undef), .leaf (.undef), .leaf (.undef), .leaf (.undef), .leaf (.undef), .leaf (.undef), .leaf (.undef), .leaf (.undef), .leaf (.undef), .leaf (.undef), .leaf (.undef), .leaf (.undef), .leaf (.undef), .leaf (.undef), .leaf (.undef), .leaf (.undef), .leaf (.undef), .leaf (.undef), .leaf (.undef), .leaf (.undef), .leaf (.undef), .leaf (.undef), .leaf (.undef), .leaf (.undef), .leaf (.undef), .leaf (.undef), .leaf (.undef), .leaf (.undef), .leaf (.undef), .leaf (.undef), .leaf (.undef), .leaf (.undef), .leaf (.sl .json), .leaf (.int .i64), .leaf (.int .i64), .leaf (.undef), .leaf (.undef), .leaf (.undef), .leaf (.undef), .leaf (.undef), .leaf (.undef), .leaf (.undef), .leaf (.undef), .leaf (.undef), .leaf (.undef), .leaf (.undef), .leaf (.undef), .leaf (.undef), .leaf (.undef), .leaf (.undef), .leaf (.undef), .leaf (.undef), .leaf (.undef), .leaf (.undef), .leaf (.undef), .leaf (.undef), .leaf (.undef), .leaf (.undef), .leaf (.undef), .leaf (.undef), .leaf (.undef), .leaf (.undef), .leaf (.undef)]
abbrev json_write_e5b6_18_0_q : List HPat := [.bld (.slo (.int .u8) 3), .cells [.ptr 0 0], .cells [.int .i64, .int .i64, .int .i64, .str, .sl .str, .sl .json], .tok]
noncomputable def json_write_e5b6_18_0_f (x : Pat.dens json_write_e5b6_18_0_p) (y : HPat.dens json_write_e5b6_18_0_q) : Nat := (List.length x.2.2.2.2.2.1 + List.length x.2.2.2.2.2.2.2.2.2.2.2.2.2.2.2.2.2.2.2.2.2.2.2.2.2.2.2.2.2.2.2.2.2.2.2.2.2.2.2.2.2.2.2.1 + Int.natAbs x.2.2.2.2.2.2.2.2.2.2.2.2.2.2.2.2.2.2.2.2.2.2.2.2.2.2.2.2.2.2.2.2.2.2.2.2.2.2.2.2.2.2.2.2.1 + Int.natAbs x.2.2.2.2.2.2.2.2.2.2.2.2.2.2.2.2.2.2.2.2.2.2.2.2.2.2.2.2.2.2.2.2.2.2.2.2.2.2.2.2.2.2.2.2.2.1 + List.length y.1 + Json.fu (⟨y.2.2.1.1, ⟨y.2.2.1.2.1, y.2.2.1.2.2.1⟩, y.2.2.1.2.2.2.1, y.2.2.1.2.2.2.2.1, y.2.2.1.2.2.2.2.2.1⟩ : Json) + 64)
noncomputable def json_write_e5b6_18_0_d (x : Pat.dens json_write_e5b6_18_0_p) (y : HPat.dens json_write_e5b6_18_0_q) : json_write_e5b6_18_0_D := (x.2.2.2.2.2.1, x.2.2.2.2.2.2.2.2.2.2.2.2.2.2.2.2.2.2.2.2.2.2.2.2.2.2.2.2.2.2.2.2.2.2.2.2.2.2.2.2.2.2.2.1, x.2.2.2.2.2.2.2.2.2.2.2.2.2.2.2.2.2.2.2.2.2.2.2.2.2.2.2.2.2.2.2.2.2.2.2.2.2.2.2.2.2.2.2.2.1, x.2.2.2.2.2.2.2.2.2.2.2.2.2.2.2.2.2.2.2.2.2.2.2.2.2.2.2.2.2.2.2.2.2.2.2.2.2.2.2.2.2.2.2.2.2.1, y.1, (⟨y.2.2.1.1, ⟨y.2.2.1.2.1, y.2.2.1.2.2.1⟩, y.2.2.1.2.2.2.1, y.2.2.1.2.2.2.2.1, y.2.2.1.2.2.2.2.2.1⟩ : Json))
noncomputable def json_write_e5b6_18_0_rr {R : Type} (L : json_write_e5b6_18_0_ty R) : Pat.dens json_write_e5b6_18_0_p → HPat.dens json_write_e5b6_18_0_q → (Ex → St → Option R) → Option R := fun x y K => L (json_write_e5b6_18_0_f x y) x.2.2.2.2.2.1 x.2.2.2.2.2.2.2.2.2.2.2.2.2.2.2.2.2.2.2.2.2.2.2.2.2.2.2.2.2.2.2.2.2.2.2.2.2.2.2.2.2.2.2.1 x.2.2.2.2.2.2.2.2.2.2.2.2.2.2.2.2.2.2.2.2.2.2.2.2.2.2.2.2.2.2.2.2.2.2.2.2.2.2.2.2.2.2.2.2.1 x.2.2.2.2.2.2.2.2.2.2.2.2.2.2.2.2.2.2.2.2.2.2.2.2.2.2.2.2.2.2.2.2.2.2.2.2.2.2.2.2.2.2.2.2.2.1 y.1 (⟨y.2.2.1.1, ⟨y.2.2.1.2.1, y.2.2.1.2.2.1⟩, y.2.2.1.2.2.2.1, y.2.2.1.2.2.2.2.1, y.2.2.1.2.2.2.2.2.1⟩ : Json) (json_write_e5b6_18_0_x0 K)
noncomputable def json_write_e5b6_T (R : Type) (json_write_e5b6_18_0_L : json_write_e5b6_18_0_ty R) : Nat → Option (Hint × LSpec R) := fun i => match i with
  | 18 => some (json_write_e5b6_18_0_h, (loopBy json_write_e5b6_18_0_p json_write_e5b6_18_0_q (json_write_e5b6_18_0_rr json_write_e5b6_18_0_L) loopNo))
  | _ => none

theorem json_write_e5b6_18_0_B_ok {R : Type} (decimal_Print : decimal_Print_ty R) (strings_Builder_WriteByte_b66c : strings_Builder_WriteByte_b66c_ty R) (strings_Builder_WriteByte_4b84 : strings_Builder_WriteByte_4b84_ty R) (strings_Builder_WriteString_fb8e : strings_Builder_WriteString_fb8e_ty R) (json_write_9953 : json_write_9953_ty R) (json_write_1_c8fa : json_write_1_c8fa_ty R) (json_write_1_20be : json_write_1_20be_ty R) (json_write_e5b6_18_0_L : json_write_e5b6_18_0_ty R) (K : Ex → St → Option R) (rc : St → Option R) (d : json_write_e5b6_18_0_D) : roundOf tt (json_write_e5b6_E R decimal_Print strings_Builder_WriteByte_b66c strings_Builder_WriteByte_4b84 strings_Builder_WriteString_fb8e json_write_9953 json_write_1_c8fa json_write_1_20be) (json_write_e5b6_T R json_write_e5b6_18_0_L) 1 ((loopsOf (codeOf Tryz.f38)).getD 0 .skip) json_write_e5b6_18_0_h (json_write_e5b6_18_0_enc d) rc K = json_write_e5b6_18_0_s strings_Builder_WriteByte_4b84 json_write_9953 json_write_1_20be K (fun d => rc (json_write_e5b6_18_0_enc d)) d := by kernel_rfl
theorem json_write_e5b6_18_0_A_succ {R : Type} (K : Ex → St → Option R) (n : Nat) (d : json_write_e5b6_18_0_D) : json_write_e5b6_18_0_A K (n + 1) d = json_write_e5b6_18_0_s strings_Builder_WriteByte_4b84 json_write_9953 json_write_1_20be K (json_write_e5b6_18_0_A K n) d := by kernel_rfl
theorem json_write_e5b6_18_0_A_zero {R : Type} (K : Ex → St → Option R) (d : json_write_e5b6_18_0_D) : json_write_e5b6_18_0_A K 0 d = none := by kernel_rfl
theorem json_write_e5b6_18_0_e_ok (x : Pat.dens json_write_e5b6_18_0_p) (y : HPat.dens json_write_e5b6_18_0_q) : (⟨Pat.encL json_write_e5b6_18_0_p x, HPat.encL json_write_e5b6_18_0_q y⟩ : St) = json_write_e5b6_18_0_enc (json_write_e5b6_18_0_d x y) := by kernel_rfl
theorem json_write_e5b6_18_0_r_ok {R : Type} (x : Pat.dens json_write_e5b6_18_0_p) (y : HPat.dens json_write_e5b6_18_0_q) (K : Ex → St → Option R) : json_write_e5b6_18_0_rr (json_write_e5b6_18_0_L) x y K = json_write_e5b6_18_0_A K (json_write_e5b6_18_0_f x y) (json_write_e5b6_18_0_d x y) := by kernel_rfl
theorem json_write_e5b6_18_0_ok {R : Type} (other : LSpec R) (ho : LsOk tt (json_write_e5b6_E R decimal_Print strings_Builder_WriteByte_b66c strings_Builder_WriteByte_4b84 strings_Builder_WriteString_fb8e json_write_9953 json_write_1_c8fa json_write_1_20be) (json_write_e5b6_T R json_write_e5b6_18_0_L) 1 ((loopsOf (codeOf Tryz.f38)).getD 0 .skip) json_write_e5b6_18_0_h other) : LsOk tt (json_write_e5b6_E R decimal_Print strings_Builder_WriteByte_b66c strings_Builder_WriteByte_4b84 strings_Builder_WriteString_fb8e json_write_9953 json_write_1_c8fa json_write_1_20be) (json_write_e5b6_T R json_write_e5b6_18_0_L) 1 ((loopsOf (codeOf Tryz.f38)).getD 0 .skip) json_write_e5b6_18_0_h (loopBy json_write_e5b6_18_0_p json_write_e5b6_18_0_q (json_write_e5b6_18_0_rr (json_write_e5b6_18_0_L)) other) :=
  loopBy_tie (A := json_write_e5b6_18_0_A) ho (loop_tie json_write_e5b6_18_0_enc (json_write_e5b6_18_0_s strings_Builder_WriteByte_4b84 json_write_9953 json_write_1_20be) (json_write_e5b6_18_0_A) (json_write_e5b6_18_0_A_zero) (json_write_e5b6_18_0_B_ok decimal_Print strings_Builder_WriteByte_b66c strings_Builder_WriteByte_4b84 strings_Builder_WriteString_fb8e json_write_9953 json_write_1_c8fa json_write_1_20be json_write_e5b6_18_0_L) (json_write_e5b6_18_0_A_succ)) json_write_e5b6_18_0_f json_write_e5b6_18_0_d json_write_e5b6_18_0_e_ok (json_write_e5b6_18_0_r_ok)

noncomputable def json_write_e5b6_X {R : Type} (decimal_Print : decimal_Print_ty R) (strings_Builder_WriteByte_b66c : strings_Builder_WriteByte_b66c_ty R) (strings_Builder_WriteByte_4b84 : strings_Builder_WriteByte_4b84_ty R) (strings_Builder_WriteString_fb8e : strings_Builder_WriteString_fb8e_ty R) (json_write_1_c8fa : json_write_1_c8fa_ty R) (json_write_e5b6_18_0_L : json_write_e5b6_18_0_ty R) (x1 : Json) (k0 : (List Int) → Option R) : Option R :=
  let j32 := fun (z12 : Str) => chk (decide ((0 : Int) < z12.length)) (strings_Builder_WriteByte_b66c ((z12.getD 0 0).toNat : Int) (fun y13 => json_write_e5b6_18_0_L (List.length z12 + List.length x1.items + Int.natAbs (x1.items.length : Int) + Int.natAbs 0 + List.length y13 + Json.fu (⟨x1.kind, ⟨x1.num.mant, x1.num.exp⟩, x1.text, x1.names, x1.items⟩ : Json) + 64) z12 x1.items (x1.items.length : Int) 0 y13 (⟨x1.kind, ⟨x1.num.mant, x1.num.exp⟩, x1.text, x1.names, x1.items⟩ : Json) (fun y29 y30 => chk (decide ((1 : Int) < y29.length)) (strings_Builder_WriteByte_4b84 ((y29.getD 1 0).toNat : Int) y30 (fun y31 => k0 y31))))); bif (x1.kind == 1) then (strings_Builder_WriteString_fb8e ([110, 117, 108, 108] : Str) (fun y2 y3 => k0 y3)) else (bif (x1.kind == 2) then (strings_Builder_WriteString_fb8e ([102, 97, 108, 115, 101] : Str) (fun y4 y5 => k0 y5)) else (bif (x1.kind == 3) then (strings_Builder_WriteString_fb8e ([116, 114, 117, 101] : Str) (fun y6 y7 => k0 y7)) else (bif (x1.kind == 4) then (decimal_Print x1.num (fun y8 => strings_Builder_WriteString_fb8e y8 (fun y9 y10 => k0 y10))) else (bif (x1.kind == 5) then (json_write_1_c8fa x1.text (fun y11 => k0 y11)) else (bif (x1.kind == 7) then (j32 ([123, 125] : Str)) else (j32 ([91, 93] : Str)))))))
noncomputable def json_write_e5b6 {R : Type} : json_write_e5b6_ty R := fun x1 k0 => json_write_e5b6_X decimal_Print strings_Builder_WriteByte_b66c strings_Builder_WriteByte_4b84 strings_Builder_WriteString_fb8e json_write_1_c8fa json_write_e5b6_18_0_L x1 k0
theorem json_write_e5b6_ok {R : Type} (decimal_Print : decimal_Print_ty R) (strings_Builder_WriteByte_b66c : strings_Builder_WriteByte_b66c_ty R) (strings_Builder_WriteByte_4b84 : strings_Builder_WriteByte_4b84_ty R) (strings_Builder_WriteString_fb8e : strings_Builder_WriteString_fb8e_ty R) (json_write_9953 : json_write_9953_ty R) (json_write_1_c8fa : json_write_1_c8fa_ty R) (json_write_1_20be : json_write_1_20be_ty R) (json_write_e5b6_18_0_L : json_write_e5b6_18_0_ty R) (x1 : Json) (k : V → Heap → Option R) : funK tt (json_write_e5b6_E R decimal_Print strings_Builder_WriteByte_b66c strings_Builder_WriteByte_4b84 strings_Builder_WriteString_fb8e json_write_9953 json_write_1_c8fa json_write_1_20be) (json_write_e5b6_T R json_write_e5b6_18_0_L) false Tryz.f38 (codeOf Tryz.f38) [.ptr 0 0, .agg [.int .i64 x1.kind, .int .i64 x1.num.mant, .int .i64 x1.num.exp, .str x1.text, .sl .str x1.names .no, .sl .json x1.items .no]] [.bld (.nilsl)] k =
    json_write_e5b6_X decimal_Print strings_Builder_WriteByte_b66c strings_Builder_WriteByte_4b84 strings_Builder_WriteString_fb8e json_write_1_c8fa json_write_e5b6_18_0_L x1 (fun q0 => k (.tuple []) [.bld (.sl (.int .u8) q0 (.own 1)), .tok]) := by kernel_rfl
theorem json_write_e5b6_loops (R : Type) : ∀ a ∈ loopsOf (codeOf Tryz.f38), LoopOk tt (json_write_e5b6_E R decimal_Print strings_Builder_WriteByte_b66c strings_Builder_WriteByte_4b84 strings_Builder_WriteString_fb8e json_write_9953 json_write_1_c8fa json_write_1_20be) (json_write_e5b6_T R json_write_e5b6_18_0_L) 1 a := by
  refine loops_ok 1 (by kernel_rfl) fun i hi => ?_
  match i, hi with
  | 0, _ => exact loopOk_some (by kernel_rfl) (json_write_e5b6_18_0_ok _ loopNo_ok)
  | n + 1, hi => omega
theorem json_write_e5b6_S_ok (R : Type) (other : Yard.Spec R) (ho : Yard.Spec.Ok Tryz.prog 38 other) : Yard.Spec.Ok Tryz.prog 38 (specBy json_write_e5b6_p json_write_e5b6_q (json_write_e5b6_rr json_write_e5b6) other) :=
  specBy_ok ho (funK_sound TT mixed (json_write_e5b6_EOk R) (keep := false) rfl rfl rfl rfl 1 (json_write_e5b6_loops R)) fun (x : Pat.dens json_write_e5b6_p) (y : HPat.dens json_write_e5b6_q) k => json_write_e5b6_ok decimal_Print strings_Builder_WriteByte_b66c strings_Builder_WriteByte_4b84 strings_Builder_WriteString_fb8e json_write_9953 json_write_1_c8fa json_write_1_20be json_write_e5b6_18_0_L (⟨x.2.1.1, ⟨x.2.1.2.1, x.2.1.2.2.1⟩, x.2.1.2.2.2.1, x.2.1.2.2.2.2.1, x.2.1.2.2.2.2.2.1⟩ : Json) k

/-! ### humpyard/json.Print -/
abbrev json_Print_ty (R : Type) : Type := Json → (Str → Option R) → Option R
abbrev json_Print_p : List Pat := [.agg [.int .i64, .int .i64, .int .i64, .str, .sl .str, .sl .json]]
abbrev json_Print_q : List HPat := []
noncomputable def json_Print_rr {R : Type} (fn : json_Print_ty R) : Pat.dens json_Print_p → HPat.dens json_Print_q → (V → Heap → Option R) → Option R := fun x y k => fn (⟨x.1.1, ⟨x.1.2.1, x.1.2.2.1⟩, x.1.2.2.2.1, x.1.2.2.2.2.1, x.1.2.2.2.2.2.1⟩ : Json) (fun q0 => k (.str q0) [])
noncomputable def json_Print_E (R : Type) (json_Right : json_Right_ty R) (json_write_e5b6 : json_write_e5b6_ty R) : Env R := fun i => match i with
  | 39 => some (false, (bstr_S R))
  | 32 => some (true, (specBy json_Right_p json_Right_q (json_Right_rr json_Right) specNo))
  | 38 => some (false, (specBy json_write_e5b6_p json_write_e5b6_q (json_write_e5b6_rr json_write_e5b6) specNo))
  | _ => none
theorem json_Print_EOk (R : Type) : EOk Tryz.prog (json_Print_E R json_Right json_write_e5b6) := by
  intro i b sp h
  unfold json_Print_E at h
  split at h
  · cases h; exact ⟨(bstr_is), fun _ _ => bstr_soft⟩
  · cases h; exact ⟨(json_Right_S_ok R _ (specNo_ok _)), fun h => nomatch h⟩
  · cases h; exact ⟨(json_write_e5b6_S_ok R _ (specNo_ok _)), fun _ h => nomatch h⟩
  · cases h

noncomputable def json_Print_T (R : Type) : Nat → Option (Hint × LSpec R) := fun i => match i with
  | _ => none

noncomputable def json_Print_X {R : Type} (json_Right : json_Right_ty R) (json_write_e5b6 : json_write_e5b6_ty R) (x1 : Json) (k0 : Str → Option R) : Option R :=
  json_Right (⟨x1.kind, ⟨x1.num.mant, x1.num.exp⟩, x1.text, x1.names, x1.items⟩ : Json) (fun y2 => bif (!y2) then (k0 ([] : Str)) else (json_write_e5b6 (⟨x1.kind, ⟨x1.num.mant, x1.num.exp⟩, x1.text, x1.names, x1.items⟩ : Json) (fun y3 => k0 (bstr y3))))
noncomputable def json_Print {R : Type} : json_Print_ty R := fun x1 k0 => json_Print_X json_Right json_write_e5b6 x1 k0
theorem json_Print_ok {R : Type} (json_Right : json_Right_ty R) (json_write_e5b6 : json_write_e5b6_ty R) (x1 : Json) (k : V → Heap → Option R) : funK tt (json_Print_E R json_Right json_write_e5b6) (json_Print_T R) false Tryz.f17 (codeOf Tryz.f17) [.agg [.int .i64 x1.kind, .int .i64 x1.num.mant, .int .i64 x1.num.exp, .str x1.text, .sl .str x1.names .no, .sl .json x1.items .no]] [] k =
    json_Print_X json_Right json_write_e5b6 x1 (fun q0 => k (.str q0) []) := by kernel_rfl
theorem json_Print_loops (R : Type) : ∀ a ∈ loopsOf (codeOf Tryz.f17), LoopOk tt (json_Print_E R json_Right json_write_e5b6) (json_Print_T R) 0 a := by
  refine loops_ok 0 (by kernel_rfl) fun i hi => ?_
  omega
theorem json_Print_S_ok (R : Type) (other : Yard.Spec R) (ho : Yard.Spec.Ok Tryz.prog 17 other) : Yard.Spec.Ok Tryz.prog 17 (specBy json_Print_p json_Print_q (json_Print_rr json_Print) other) :=
  specBy_ok ho (funK_sound TT mixed (json_Print_EOk R) (keep := false) rfl rfl rfl rfl 0 (json_Print_loops R)) fun (x : Pat.dens json_Print_p) (y : HPat.dens json_Print_q) k => json_Print_ok json_Right json_write_e5b6 (⟨x.1.1, ⟨x.1.2.1, x.1.2.2.1⟩, x.1.2.2.2.1, x.1.2.2.2.2.1, x.1.2.2.2.2.2.1⟩ : Json) k

/-! ### slices.Equal[[]string,string] -/
abbrev slices_Equal_stringstring_ty (R : Type) : Type := (List Str) → (List Str) → (Bool → Option R) → Option R
abbrev slices_Equal_stringstring_p : List Pat := [.leaf (.sl .str), .leaf (.sl .str)]
abbrev slices_Equal_stringstring_q : List HPat := []
noncomputable def slices_Equal_stringstring_rr {R : Type} (fn : slices_Equal_stringstring_ty R) : Pat.dens slices_Equal_stringstring_p → HPat.dens slices_Equal_stringstring_q → (V → Heap → Option R) → Option R := fun x y k => fn x.1 x.2.1 (fun q0 => k (.bool q0) [])
abbrev slices_Equal_stringstring_4_0_ty (R : Type) : Type := Nat → (List Str) → (List Str) → Int → Int → (Option R) → (Bool → Option R) → Option R
noncomputable def slices_Equal_stringstring_E (R : Type) : Env R := fun i => match i with
  | _ => none
theorem slices_Equal_stringstring_EOk (R : Type) : EOk Tryz.prog (slices_Equal_stringstring_E R) := by
  intro i b sp h
  unfold slices_Equal_stringstring_E at h
  split at h
  · cases h

noncomputable def slices_Equal_stringstring_4_0_B {R : Type} (rec' : (List Str) → (List Str) → Int → Int → Option R) (x3 : List Str) (x4 : List Str) (x5 : Int) (x6 : Int) (e0 : Option R) (e1 : Bool → Option R) : Option R :=
  bif (decide (x6 < x5)) then (chk (decide ((0 : Int) ≤ x6) && decide (x6 < x3.length)) (chk (decide ((0 : Int) ≤ x6) && decide (x6 < x4.length)) (bif (!((x3.getD x6.toNat (Ty.dflt .str)) == (x4.getD x6.toNat (Ty.dflt .str)))) then (e1 false) else (rec' x3 x4 x5 (IntKind.i64.wrap (x6 + 1)))))) else (e0)
noncomputable def slices_Equal_stringstring_4_0_L {R : Type} : slices_Equal_stringstring_4_0_ty R
  | 0, _, _, _, _, _, _ => none
  | n + 1, x0', x1', x2', x3', e0, e1 => slices_Equal_stringstring_4_0_B (fun x0' x1' x2' x3' => slices_Equal_stringstring_4_0_L n x0' x1' x2' x3' e0 e1) x0' x1' x2' x3' e0 e1
noncomputable def slices_Equal_stringstring_4_0_h : Hint := { live := [0, 1, 12, 13], own := [], rows := [], cells := [], drop := [], out := [4] }
abbrev slices_Equal_stringstring_4_0_D : Type := (List Str) × (List Str) × Int × Int
noncomputable def slices_Equal_stringstring_4_0_enc : slices_Equal_stringstring_4_0_D → St := fun d => ⟨[.sl .str d.1 .no, .sl .str d.2.1 .no, .undef, .undef, .undef, .undef, .undef, .undef, .undef, .undef, .undef, .undef, .int .i64 d.2.2.1, .int .i64 d.2.2.2, .undef, .undef, .undef, .undef, .undef, .undef, .undef, .undef, .undef, .undef, .undef, .undef], []⟩
noncomputable def slices_Equal_stringstring_4_0_x0 {R : Type} (K : Ex → St → Option R) : Option R := K (.exit 0) ⟨[.undef, .undef, .undef, .undef, .undef, .undef, .undef, .undef, .undef, .undef, .undef, .undef, .undef, .undef, .undef, .undef, .undef, .undef, .undef, .undef, .undef, .undef, .undef, .undef, .undef, .undef], []⟩
noncomputable def slices_Equal_stringstring_4_0_x1 {R : Type} (K : Ex → St → Option R) (q0 : Bool) : Option R := K (.ret) ⟨[.undef, .undef, .undef, .undef, .bool q0, .undef, .undef, .undef, .undef, .undef, .undef, .undef, .undef, .undef, .undef, .undef, .undef, .undef, .undef, .undef, .undef, .undef, .undef, .undef, .undef, .undef], []⟩
noncomputable def slices_Equal_stringstring_4_0_s {R : Type} (K : Ex → St → Option R) (rc : slices_Equal_stringstring_4_0_D → Option R) (d : slices_Equal_stringstring_4_0_D) : Option R := slices_Equal_stringstring_4_0_B (fun z0 z1 z2 z3 => rc (z0, z1, z2, z3)) d.1 d.2.1 d.2.2.1 d.2.2.2 (slices_Equal_stringstring_4_0_x0 K) (slices_Equal_stringstring_4_0_x1 K)
noncomputable def slices_Equal_stringstring_4_0_A {R : Type} (K : Ex → St → Option R) (n : Nat) (d : slices_Equal_stringstring_4_0_D) : Option R := slices_Equal_stringstring_4_0_L n d.1 d.2.1 d.2.2.1 d.2.2.2 (slices_Equal_stringstring_4_0_x0 K) (slices_Equal_stringstring_4_0_x1 K)
abbrev slices_Equal_stringstring_4_0_p : List Pat := [.leaf (.sl .str), .leaf (.sl .str), .leaf (.undef), .leaf (.undef), .leaf (.undef), .leaf (.undef), .leaf (.undef), .leaf (.undef), .leaf (.undef), .leaf (.undef), .leaf (.undef), .leaf (.undef), .leaf (.int .i64), .leaf (.int .i64), .leaf (.undef), .leaf (.undef), .leaf (.undef), .leaf (.undef), .leaf (.undef), .leaf (.undef), .leaf (.undef), .leaf (.undef), .leaf (.undef), .leaf (.undef), .leaf (.undef), .leaf (.undef)]
abbrev slices_Equal_stringstring_4_0_q : List HPat := []
noncomputable def slices_Equal_stringstring_4_0_f (x : Pat.dens slices_Equal_stringstring_4_0_p) (y : HPat.dens slices_Equal_stringstring_4_0_q) : Nat := (List.length x.1 + List.length x.2.1 + Int.natAbs x.2.2.2.2.2.2.2.2.2.2.2.2.1 + Int.natAbs x.2.2.2.2.2.2.2.2.2.2.2.2.2.1 + 64)
noncomputable def slices_Equal_stringstring_4_0_d (x : Pat.dens slices_Equal_stringstring_4_0_p) (y : HPat.dens slices_Equal_stringstring_4_0_q) : slices_Equal_stringstring_4_0_D := (x.1, x.2.1, x.2.2.2.2.2.2.2.2.2.2.2.2.1, x.2.2.2.2.2.2.2.2.2.2.2.2.2.1)
noncomputable def slices_Equal_stringstring_4_0_rr {R : Type} (L : slices_Equal_stringstring_4_0_ty R) : Pat.dens slices_Equal_stringstring_4_0_p → HPat.dens slices_Equal_stringstring_4_0_q → (Ex → St → Option R) → Option R := fun x y K => L (slices_Equal_stringstring_4_0_f x y) x.1 x.2.1 x.2.2.2.2.2.2.2.2.2.2.2.2.1 x.2.2.2.2.2.2.2.2.2.2.2.2.2.1 (slices_Equal_stringstring_4_0_x0 K) (slices_Equal_stringstring_4_0_x1 K)
noncomputable def slices_Equal_stringstring_T (R : Type) (slices_Equal_stringstring_4_0_L : slices_Equal_stringstring_4_0_ty R) : Nat → Option (Hint × LSpec R) := fun i => match i with
  | 4 => some (slices_Equal_stringstring_4_0_h, (loopBy slices_Equal_stringstring_4_0_p slices_Equal_stringstring_4_0_q (slices_Equal_stringstring_4_0_rr slices_Equal_stringstring_4_0_L) loopNo))
  | _ => none

theorem slices_Equal_stringstring_4_0_B_ok {R : Type} (slices_Equal_stringstring_4_0_L : slices_Equal_stringstring_4_0_ty R) (K : Ex → St → Option R) (rc : St → Option R) (d : slices_Equal_stringstring_4_0_D) : roundOf tt (slices_Equal_stringstring_E R) (slices_Equal_stringstring_T R slices_Equal_stringstring_4_0_L) 0 ((loopsOf (codeOf Tryz.f44)).getD 0 .skip) slices_Equal_stringstring_4_0_h (slices_Equal_stringstring_4_0_enc d) rc K = slices_Equal_stringstring_4_0_s K (fun d => rc (slices_Equal_stringstring_4_0_enc d)) d := by kernel_rfl
theorem slices_Equal_stringstring_4_0_A_succ {R : Type} (K : Ex → St → Option R) (n : Nat) (d : slices_Equal_stringstring_4_0_D) : slices_Equal_stringstring_4_0_A K (n + 1) d = slices_Equal_stringstring_4_0_s K (slices_Equal_stringstring_4_0_A K n) d := by kernel_rfl
theorem slices_Equal_stringstring_4_0_A_zero {R : Type} (K : Ex → St → Option R) (d : slices_Equal_stringstring_4_0_D) : slices_Equal_stringstring_4_0_A K 0 d = none := by kernel_rfl
theorem slices_Equal_stringstring_4_0_e_ok (x : Pat.dens slices_Equal_stringstring_4_0_p) (y : HPat.dens slices_Equal_stringstring_4_0_q) : (⟨Pat.encL slices_Equal_stringstring_4_0_p x, HPat.encL slices_Equal_stringstring_4_0_q y⟩ : St) = slices_Equal_stringstring_4_0_enc (slices_Equal_stringstring_4_0_d x y) := by kernel_rfl
theorem slices_Equal_stringstring_4_0_r_ok {R : Type} (x : Pat.dens slices_Equal_stringstring_4_0_p) (y : HPat.dens slices_Equal_stringstring_4_0_q) (K : Ex → St → Option R) : slices_Equal_stringstring_4_0_rr (slices_Equal_stringstring_4_0_L) x y K = slices_Equal_stringstring_4_0_A K (slices_Equal_stringstring_4_0_f x y) (slices_Equal_stringstring_4_0_d x y) := by kernel_rfl
theorem slices_Equal_stringstring_4_0_ok {R : Type} (other : LSpec R) (ho : LsOk tt (slices_Equal_stringstring_E R) (slices_Equal_stringstring_T R slices_Equal_stringstring_4_0_L) 0 ((loopsOf (codeOf Tryz.f44)).getD 0 .skip) slices_Equal_stringstring_4_0_h other) : LsOk tt (slices_Equal_stringstring_E R) (slices_Equal_stringstring_T R slices_Equal_stringstring_4_0_L) 0 ((loopsOf (codeOf Tryz.f44)).getD 0 .skip) slices_Equal_stringstring_4_0_h (loopBy slices_Equal_stringstring_4_0_p slices_Equal_stringstring_4_0_q (slices_Equal_stringstring_4_0_rr (slices_Equal_stringstring_4_0_L)) other) :=
  loopBy_tie (A := slices_Equal_stringstring_4_0_A) ho (loop_tie slices_Equal_stringstring_4_0_enc (slices_Equal_stringstring_4_0_s) (slices_Equal_stringstring_4_0_A) (slices_Equal_stringstring_4_0_A_zero) (slices_Equal_stringstring_4_0_B_ok slices_Equal_stringstring_4_0_L) (slices_Equal_stringstring_4_0_A_succ)) slices_Equal_stringstring_4_0_f slices_Equal_stringstring_4_0_d slices_Equal_stringstring_4_0_e_ok (slices_Equal_stringstring_4_0_r_ok)

noncomputable def slices_Equal_stringstring_X {R : Type} (slices_Equal_stringstring_4_0_L : slices_Equal_stringstring_4_0_ty R) (x1 : List Str) (x2 : List Str) (k0 : Bool → Option R) : Option R :=
  bif ((x1.length : Int) != (x2.length : Int)) then (k0 false) else (slices_Equal_stringstring_4_0_L (List.length x1 + List.length x2 + Int.natAbs (x1.length : Int) + Int.natAbs 0 + 64) x1 x2 (x1.length : Int) 0 (k0 true) (fun y7 => k0 y7))
noncomputable def slices_Equal_stringstring {R : Type} : slices_Equal_stringstring_ty R := fun x1 x2 k0 => slices_Equal_stringstring_X slices_Equal_stringstring_4_0_L x1 x2 k0
theorem slices_Equal_stringstring_ok {R : Type} (slices_Equal_stringstring_4_0_L : slices_Equal_stringstring_4_0_ty R) (x1 : List Str) (x2 : List Str) (k : V → Heap → Option R) : funK tt (slices_Equal_stringstring_E R) (slices_Equal_stringstring_T R slices_Equal_stringstring_4_0_L) false Tryz.f44 (codeOf Tryz.f44) [.sl .str x1 .no, .sl .str x2 .no] [] k =
    slices_Equal_stringstring_X slices_Equal_stringstring_4_0_L x1 x2 (fun q0 => k (.bool q0) []) := by kernel_rfl
theorem slices_Equal_stringstring_loops (R : Type) : ∀ a ∈ loopsOf (codeOf Tryz.f44), LoopOk tt (slices_Equal_stringstring_E R) (slices_Equal_stringstring_T R slices_Equal_stringstring_4_0_L) 0 a := by
  refine loops_ok 1 (by kernel_rfl) fun i hi => ?_
  match i, hi with
  | 0, _ => exact loopOk_some (by kernel_rfl) (slices_Equal_stringstring_4_0_ok _ loopNo_ok)
  | n + 1, hi => omega
theorem slices_Equal_stringstring_S_ok (R : Type) (other : Yard.Spec R) (ho : Yard.Spec.Ok Tryz.prog 44 other) : Yard.Spec.Ok Tryz.prog 44 (specBy slices_Equal_stringstring_p slices_Equal_stringstring_q (slices_Equal_stringstring_rr slices_Equal_stringstring) other) :=
  specBy_ok ho (funK_sound TT mixed (slices_Equal_stringstring_EOk R) (keep := false) rfl rfl rfl rfl 0 (slices_Equal_stringstring_loops R)) fun (x : Pat.dens slices_Equal_stringstring_p) (y : HPat.dens slices_Equal_stringstring_q) k => slices_Equal_stringstring_ok slices_Equal_stringstring_4_0_L x.1 x.2.1 k

end Go.Proofs.YtmlkkgfenfdndaaGreatDoor

/-
  Functions of the program as pure Lean functions, and the ties; printed by wip/tools/emit.py.
-/
set_option maxRecDepth 100000
set_option linter.unusedVariables false
namespace Go.Proofs.YtmlkkgfenfdndaaGreatDoor
open Go Go.Yard

/-! ### humpyard/json.Same -/
abbrev json_Same_ty (R : Type) : Type := Json → Json → (Bool → Option R) → Option R
abbrev json_Same_p : List Pat := [.agg [.int .i64, .int .i64, .int .i64, .str, .sl .str, .sl .json], .agg [.int .i64, .int .i64, .int .i64, .str, .sl .str, .sl .json]]
abbrev json_Same_q : List HPat := []
noncomputable def json_Same_rr {R : Type} (fn : json_Same_ty R) : Pat.dens json_Same_p → HPat.dens json_Same_q → (V → Heap → Option R) → Option R := fun x y k => fn (⟨x.1.1, ⟨x.1.2.1, x.1.2.2.1⟩, x.1.2.2.2.1, x.1.2.2.2.2.1, x.1.2.2.2.2.2.1⟩ : Json) (⟨x.2.1.1, ⟨x.2.1.2.1, x.2.1.2.2.1⟩, x.2.1.2.2.2.1, x.2.1.2.2.2.2.1, x.2.1.2.2.2.2.2.1⟩ : Json) (fun q0 => k (.bool q0) [])
/-! ### slices.EqualFunc[[]humpyard/api.Json,[]humpyard/api.Json,humpyard/api.Json,humpyard/api.Json] -/
abbrev slices_EqualFunc_JsonJsonJsonJson_ae5b_ty (R : Type) : Type := (List Json) → (List Json) → (Bool → Option R) → Option R
abbrev slices_EqualFunc_JsonJsonJsonJson_ae5b_p : List Pat := [.leaf (.sl .json), .leaf (.sl .json), .leaf (.fn 21)]
abbrev slices_EqualFunc_JsonJsonJsonJson_ae5b_q : List HPat := []
noncomputable def slices_EqualFunc_JsonJsonJsonJson_ae5b_rr {R : Type} (fn : slices_EqualFunc_JsonJsonJsonJson_ae5b_ty R) : Pat.dens slices_EqualFunc_JsonJsonJsonJson_ae5b_p → HPat.dens slices_EqualFunc_JsonJsonJsonJson_ae5b_q → (V → Heap → Option R) → Option R := fun x y k => fn x.1 x.2.1 (fun q0 => k (.bool q0) [])
abbrev slices_EqualFunc_JsonJsonJsonJson_ae5b_4_0_ty (R : Type) : Type := Nat → (List Json) → (List Json) → Int → Int → (Option R) → (Bool → Option R) → Option R
noncomputable def slices_EqualFunc_JsonJsonJsonJson_ae5b_E (R : Type) (hrec_json_Same : json_Same_ty R) : Env R := fun i => match i with
  | 21 => some (true, (specBy json_Same_p json_Same_q (json_Same_rr hrec_json_Same) specNo))
  | _ => none
theorem slices_EqualFunc_JsonJsonJsonJson_ae5b_EOk (R : Type) (hrec_json_Same : json_Same_ty R) (hyp_json_Same : Yard.Spec.Ok Tryz.prog 21 (specBy json_Same_p json_Same_q (json_Same_rr hrec_json_Same) specNo)) : EOk Tryz.prog (slices_EqualFunc_JsonJsonJsonJson_ae5b_E R hrec_json_Same) := by
  intro i b sp h
  unfold slices_EqualFunc_JsonJsonJsonJson_ae5b_E at h
  split at h
  · cases h; exact ⟨hyp_json_Same, fun h => nomatch h⟩
  · cases h

noncomputable def slices_EqualFunc_JsonJsonJsonJson_ae5b_4_0_B {R : Type} (hrec_json_Same : json_Same_ty R) (rec' : (List Json) → (List Json) → Int → Int → Option R) (x3 : List Json) (x4 : List Json) (x5 : Int) (x6 : Int) (e0 : Option R) (e1 : Bool → Option R) : Option R :=
  bif (decide (x6 < x5)) then (chk (decide ((0 : Int) ≤ x6) && decide (x6 < x4.length)) (chk (decide ((0 : Int) ≤ x6) && decide (x6 < x3.length)) (hrec_json_Same (⟨(x4.getD x6.toNat (Ty.dflt .json)).kind, ⟨(x4.getD x6.toNat (Ty.dflt .json)).num.mant, (x4.getD x6.toNat (Ty.dflt .json)).num.exp⟩, (x4.getD x6.toNat (Ty.dflt .json)).text, (x4.getD x6.toNat (Ty.dflt .json)).names, (x4.getD x6.toNat (Ty.dflt .json)).items⟩ : Json) (⟨(x3.getD x6.toNat (Ty.dflt .json)).kind, ⟨(x3.getD x6.toNat (Ty.dflt .json)).num.mant, (x3.getD x6.toNat (Ty.dflt .json)).num.exp⟩, (x3.getD x6.toNat (Ty.dflt .json)).text, (x3.getD x6.toNat (Ty.dflt .json)).names, (x3.getD x6.toNat (Ty.dflt .json)).items⟩ : Json) (fun y7 => bif (!y7) then (e1 false) else (rec' x3 x4 x5 (IntKind.i64.wrap (x6 + 1))))))) else (e0)
noncomputable def slices_EqualFunc_JsonJsonJsonJson_ae5b_4_0_L {R : Type} (hrec_json_Same : json_Same_ty R) : slices_EqualFunc_JsonJsonJsonJson_ae5b_4_0_ty R
  | 0, _, _, _, _, _, _ => none
  | n + 1, x0', x1', x2', x3', e0, e1 => slices_EqualFunc_JsonJsonJsonJson_ae5b_4_0_B hrec_json_Same (fun x0' x1' x2' x3' => slices_EqualFunc_JsonJsonJsonJson_ae5b_4_0_L hrec_json_Same n x0' x1' x2' x3' e0 e1) x0' x1' x2' x3' e0 e1
noncomputable def slices_EqualFunc_JsonJsonJsonJson_ae5b_4_0_h : Hint := { live := [1, 2, 15, 16, 17], own := [], rows := [], cells := [], drop := [], out := [6] }
abbrev slices_EqualFunc_JsonJsonJsonJson_ae5b_4_0_D : Type := (List Json) × (List Json) × Int × Int
noncomputable def slices_EqualFunc_JsonJsonJsonJson_ae5b_4_0_enc : slices_EqualFunc_JsonJsonJsonJson_ae5b_4_0_D → St := fun d => ⟨[.undef, .sl .json d.1 .no, .func 21 [] [], .undef, .undef, .undef, .undef, .undef, .undef, .undef, .undef, .undef, .undef, .undef, .undef, .sl .json d.2.1 .no, .int .i64 d.2.2.1, .int .i64 d.2.2.2, .undef, .undef, .undef, .undef, .undef, .undef, .undef, .undef, .undef, .undef, .undef, .undef, .undef, .undef], []⟩
noncomputable def slices_EqualFunc_JsonJsonJsonJson_ae5b_4_0_x0 {R : Type} (K : Ex → St → Option R) : Option R := K (.exit 0) ⟨[.undef, .undef, .undef, .undef, .undef, .undef, .undef, .undef, .undef, .undef, .undef, .undef, .undef, .undef, .undef, .undef, .undef, .undef, .undef, .undef, .undef, .undef, .undef, .undef, .undef, .undef, .undef, .undef, .undef, .undef, .undef, .undef], []⟩
noncomputable def slices_EqualFunc_JsonJsonJsonJson_ae5b_4_0_x1 {R : Type} (K : Ex → St → Option R) (q0 : Bool) : Option R := K (.ret) ⟨[.undef, .undef, .undef, .undef, .undef, .undef, .bool q0, .undef, .undef, .undef, .undef, .undef, .undef, .undef, .undef, .undef, .undef, .undef, .undef, .undef, .undef, .undef, .undef, .undef, .undef, .undef, .undef, .undef, .undef, .undef, .undef, .undef], []⟩
noncomputable def slices_EqualFunc_JsonJsonJsonJson_ae5b_4_0_s {R : Type} (hrec_json_Same : json_Same_ty R) (K : Ex → St → Option R) (rc : slices_EqualFunc_JsonJsonJsonJson_ae5b_4_0_D → Option R) (d : slices_EqualFunc_JsonJsonJsonJson_ae5b_4_0_D) : Option R := slices_EqualFunc_JsonJsonJsonJson_ae5b_4_0_B hrec_json_Same (fun z0 z1 z2 z3 => rc (z0, z1, z2, z3)) d.1 d.2.1 d.2.2.1 d.2.2.2 (slices_EqualFunc_JsonJsonJsonJson_ae5b_4_0_x0 K) (slices_EqualFunc_JsonJsonJsonJson_ae5b_4_0_x1 K)
noncomputable def slices_EqualFunc_JsonJsonJsonJson_ae5b_4_0_A {R : Type} (hrec_json_Same : json_Same_ty R) (K : Ex → St → Option R) (n : Nat) (d : slices_EqualFunc_JsonJsonJsonJson_ae5b_4_0_D) : Option R := slices_EqualFunc_JsonJsonJsonJson_ae5b_4_0_L hrec_json_Same n d.1 d.2.1 d.2.2.1 d.2.2.2 (slices_EqualFunc_JsonJsonJsonJson_ae5b_4_0_x0 K) (slices_EqualFunc_JsonJsonJsonJson_ae5b_4_0_x1 K)
abbrev slices_EqualFunc_JsonJsonJsonJson_ae5b_4_0_p : List Pat := [.leaf (.undef), .leaf (.sl .json), .leaf (.fn 21), .leaf (.undef), .leaf (.undef), .leaf (.undef), .leaf (.undef), .leaf (.undef), .leaf (.undef), .leaf (.undef), .leaf (.undef), .leaf (.undef), .leaf (.undef), .leaf (.undef), .leaf (.undef), .leaf (.sl .json), .leaf (.int .i64), .leaf (.int .i64), .leaf (.undef), .leaf (.undef), .leaf (.undef), .leaf (.undef), .leaf (.undef), .leaf (.undef), .leaf (.undef), .leaf (.undef), .leaf (.undef), .leaf (.undef), .leaf (.undef), .leaf (.undef), .leaf (.undef), .leaf (.undef)]
abbrev slices_EqualFunc_JsonJsonJsonJson_ae5b_4_0_q : List HPat := []
noncomputable def slices_EqualFunc_JsonJsonJsonJson_ae5b_4_0_f (x : Pat.dens slices_EqualFunc_JsonJsonJsonJson_ae5b_4_0_p) (y : HPat.dens slices_EqualFunc_JsonJsonJsonJson_ae5b_4_0_q) : Nat := (List.length x.2.1 + List.length x.2.2.2.2.2.2.2.2.2.2.2.2.2.2.2.1 + Int.natAbs x.2.2.2.2.2.2.2.2.2.2.2.2.2.2.2.2.1 + Int.natAbs x.2.2.2.2.2.2.2.2.2.2.2.2.2.2.2.2.2.1 + 64)
noncomputable def slices_EqualFunc_JsonJsonJsonJson_ae5b_4_0_d (x : Pat.dens slices_EqualFunc_JsonJsonJsonJson_ae5b_4_0_p) (y : HPat.dens slices_EqualFunc_JsonJsonJsonJson_ae5b_4_0_q) : slices_EqualFunc_JsonJsonJsonJson_ae5b_4_0_D := (x.2.1, x.2.2.2.2.2.2.2.2.2.2.2.2.2.2.2.1, x.2.2.2.2.2.2.2.2.2.2.2.2.2.2.2.2.1, x.2.2.2.2.2.2.2.2.2.2.2.2.2.2.2.2.2.1)
noncomputable def slices_EqualFunc_JsonJsonJsonJson_ae5b_4_0_rr {R : Type} (L : slices_EqualFunc_JsonJsonJsonJson_ae5b_4_0_ty R) : Pat.dens slices_EqualFunc_JsonJsonJsonJson_ae5b_4_0_p → HPat.dens slices_EqualFunc_JsonJsonJsonJson_ae5b_4_0_q → (Ex → St → Option R) → Option R := fun x y K => L (slices_EqualFunc_JsonJsonJsonJson_ae5b_4_0_f x y) x.2.1 x.2.2.2.2.2.2.2.2.2.2.2.2.2.2.2.1 x.2.2.2.2.2.2.2.2.2.2.2.2.2.2.2.2.1 x.2.2.2.2.2.2.2.2.2.2.2.2.2.2.2.2.2.1 (slices_EqualFunc_JsonJsonJsonJson_ae5b_4_0_x0 K) (slices_EqualFunc_JsonJsonJsonJson_ae5b_4_0_x1 K)
noncomputable def slices_EqualFunc_JsonJsonJsonJson_ae5b_T (R : Type) (slices_EqualFunc_JsonJsonJsonJson_ae5b_4_0_L : slices_EqualFunc_JsonJsonJsonJson_ae5b_4_0_ty R) : Nat → Option (Hint × LSpec R) := fun i => match i with
  | 4 => some (slices_EqualFunc_JsonJsonJsonJson_ae5b_4_0_h, (loopBy slices_EqualFunc_JsonJsonJsonJson_ae5b_4_0_p slices_EqualFunc_JsonJsonJsonJson_ae5b_4_0_q (slices_EqualFunc_JsonJsonJsonJson_ae5b_4_0_rr slices_EqualFunc_JsonJsonJsonJson_ae5b_4_0_L) loopNo))
  | _ => none

theorem slices_EqualFunc_JsonJsonJsonJson_ae5b_4_0_B_ok {R : Type} (hrec_json_Same : json_Same_ty R) (slices_EqualFunc_JsonJsonJsonJson_ae5b_4_0_L : slices_EqualFunc_JsonJsonJsonJson_ae5b_4_0_ty R) (K : Ex → St → Option R) (rc : St → Option R) (d : slices_EqualFunc_JsonJsonJsonJson_ae5b_4_0_D) : roundOf tt (slices_EqualFunc_JsonJsonJsonJson_ae5b_E R hrec_json_Same) (slices_EqualFunc_JsonJsonJsonJson_ae5b_T R slices_EqualFunc_JsonJsonJsonJson_ae5b_4_0_L) 0 ((loopsOf (codeOf Tryz.f45)).getD 0 .skip) slices_EqualFunc_JsonJsonJsonJson_ae5b_4_0_h (slices_EqualFunc_JsonJsonJsonJson_ae5b_4_0_enc d) rc K = slices_EqualFunc_JsonJsonJsonJson_ae5b_4_0_s hrec_json_Same K (fun d => rc (slices_EqualFunc_JsonJsonJsonJson_ae5b_4_0_enc d)) d := by kernel_rfl
theorem slices_EqualFunc_JsonJsonJsonJson_ae5b_4_0_A_succ {R : Type} (hrec_json_Same : json_Same_ty R) (K : Ex → St → Option R) (n : Nat) (d : slices_EqualFunc_JsonJsonJsonJson_ae5b_4_0_D) : slices_EqualFunc_JsonJsonJsonJson_ae5b_4_0_A hrec_json_Same K (n + 1) d = slices_EqualFunc_JsonJsonJsonJson_ae5b_4_0_s hrec_json_Same K (slices_EqualFunc_JsonJsonJsonJson_ae5b_4_0_A hrec_json_Same K n) d := by kernel_rfl
theorem slices_EqualFunc_JsonJsonJsonJson_ae5b_4_0_A_zero {R : Type} (hrec_json_Same : json_Same_ty R) (K : Ex → St → Option R) (d : slices_EqualFunc_JsonJsonJsonJson_ae5b_4_0_D) : slices_EqualFunc_JsonJsonJsonJson_ae5b_4_0_A hrec_json_Same K 0 d = none := by kernel_rfl
theorem slices_EqualFunc_JsonJsonJsonJson_ae5b_4_0_e_ok (x : Pat.dens slices_EqualFunc_JsonJsonJsonJson_ae5b_4_0_p) (y : HPat.dens slices_EqualFunc_JsonJsonJsonJson_ae5b_4_0_q) : (⟨Pat.encL slices_EqualFunc_JsonJsonJsonJson_ae5b_4_0_p x, HPat.encL slices_EqualFunc_JsonJsonJsonJson_ae5b_4_0_q y⟩ : St) = slices_EqualFunc_JsonJsonJsonJson_ae5b_4_0_enc (slices_EqualFunc_JsonJsonJsonJson_ae5b_4_0_d x y) := by kernel_rfl
theorem slices_EqualFunc_JsonJsonJsonJson_ae5b_4_0_r_ok {R : Type} (hrec_json_Same : json_Same_ty R) (x : Pat.dens slices_EqualFunc_JsonJsonJsonJson_ae5b_4_0_p) (y : HPat.dens slices_EqualFunc_JsonJsonJsonJson_ae5b_4_0_q) (K : Ex → St → Option R) : slices_EqualFunc_JsonJsonJsonJson_ae5b_4_0_rr (slices_EqualFunc_JsonJsonJsonJson_ae5b_4_0_L hrec_json_Same) x y K = slices_EqualFunc_JsonJsonJsonJson_ae5b_4_0_A hrec_json_Same K (slices_EqualFunc_JsonJsonJsonJson_ae5b_4_0_f x y) (slices_EqualFunc_JsonJsonJsonJson_ae5b_4_0_d x y) := by kernel_rfl
theorem slices_EqualFunc_JsonJsonJsonJson_ae5b_4_0_ok {R : Type} (hrec_json_Same : json_Same_ty R) (other : LSpec R) (ho : LsOk tt (slices_EqualFunc_JsonJsonJsonJson_ae5b_E R hrec_json_Same) (slices_EqualFunc_JsonJsonJsonJson_ae5b_T R (slices_EqualFunc_JsonJsonJsonJson_ae5b_4_0_L hrec_json_Same)) 0 ((loopsOf (codeOf Tryz.f45)).getD 0 .skip) slices_EqualFunc_JsonJsonJsonJson_ae5b_4_0_h other) : LsOk tt (slices_EqualFunc_JsonJsonJsonJson_ae5b_E R hrec_json_Same) (slices_EqualFunc_JsonJsonJsonJson_ae5b_T R (slices_EqualFunc_JsonJsonJsonJson_ae5b_4_0_L hrec_json_Same)) 0 ((loopsOf (codeOf Tryz.f45)).getD 0 .skip) slices_EqualFunc_JsonJsonJsonJson_ae5b_4_0_h (loopBy slices_EqualFunc_JsonJsonJsonJson_ae5b_4_0_p slices_EqualFunc_JsonJsonJsonJson_ae5b_4_0_q (slices_EqualFunc_JsonJsonJsonJson_ae5b_4_0_rr (slices_EqualFunc_JsonJsonJsonJson_ae5b_4_0_L hrec_json_Same)) other) :=
  loopBy_tie (A := slices_EqualFunc_JsonJsonJsonJson_ae5b_4_0_A hrec_json_Same) ho (loop_tie slices_EqualFunc_JsonJsonJsonJson_ae5b_4_0_enc (slices_EqualFunc_JsonJsonJsonJson_ae5b_4_0_s hrec_json_Same) (slices_EqualFunc_JsonJsonJsonJson_ae5b_4_0_A hrec_json_Same) (slices_EqualFunc_JsonJsonJsonJson_ae5b_4_0_A_zero hrec_json_Same) (slices_EqualFunc_JsonJsonJsonJson_ae5b_4_0_B_ok hrec_json_Same (slices_EqualFunc_JsonJsonJsonJson_ae5b_4_0_L hrec_json_Same)) (slices_EqualFunc_JsonJsonJsonJson_ae5b_4_0_A_succ hrec_json_Same)) slices_EqualFunc_JsonJsonJsonJson_ae5b_4_0_f slices_EqualFunc_JsonJsonJsonJson_ae5b_4_0_d slices_EqualFunc_JsonJsonJsonJson_ae5b_4_0_e_ok (slices_EqualFunc_JsonJsonJsonJson_ae5b_4_0_r_ok hrec_json_Same)

noncomputable def slices_EqualFunc_JsonJsonJsonJson_ae5b_X {R : Type} (slices_EqualFunc_JsonJsonJsonJson_ae5b_4_0_L : slices_EqualFunc_JsonJsonJsonJson_ae5b_4_0_ty R) (x1 : List Json) (x2 : List Json) (k0 : Bool → Option R) : Option R :=
  bif ((x1.length : Int) != (x2.length : Int)) then (k0 false) else (slices_EqualFunc_JsonJsonJsonJson_ae5b_4_0_L (List.length x2 + List.length x1 + Int.natAbs (x1.length : Int) + Int.natAbs 0 + 64) x2 x1 (x1.length : Int) 0 (k0 true) (fun y8 => k0 y8))
noncomputable def slices_EqualFunc_JsonJsonJsonJson_ae5b {R : Type} (hrec_json_Same : json_Same_ty R) : slices_EqualFunc_JsonJsonJsonJson_ae5b_ty R := fun x1 x2 k0 => slices_EqualFunc_JsonJsonJsonJson_ae5b_X (slices_EqualFunc_JsonJsonJsonJson_ae5b_4_0_L hrec_json_Same) x1 x2 k0
theorem slices_EqualFunc_JsonJsonJsonJson_ae5b_ok {R : Type} (hrec_json_Same : json_Same_ty R) (slices_EqualFunc_JsonJsonJsonJson_ae5b_4_0_L : slices_EqualFunc_JsonJsonJsonJson_ae5b_4_0_ty R) (x1 : List Json) (x2 : List Json) (k : V → Heap → Option R) : funK tt (slices_EqualFunc_JsonJsonJsonJson_ae5b_E R hrec_json_Same) (slices_EqualFunc_JsonJsonJsonJson_ae5b_T R slices_EqualFunc_JsonJsonJsonJson_ae5b_4_0_L) false Tryz.f45 (codeOf Tryz.f45) [.sl .json x1 .no, .sl .json x2 .no, .func 21 [] []] [] k =
    slices_EqualFunc_JsonJsonJsonJson_ae5b_X slices_EqualFunc_JsonJsonJsonJson_ae5b_4_0_L x1 x2 (fun q0 => k (.bool q0) []) := by kernel_rfl
theorem slices_EqualFunc_JsonJsonJsonJson_ae5b_loops (R : Type) (hrec_json_Same : json_Same_ty R) : ∀ a ∈ loopsOf (codeOf Tryz.f45), LoopOk tt (slices_EqualFunc_JsonJsonJsonJson_ae5b_E R hrec_json_Same) (slices_EqualFunc_JsonJsonJsonJson_ae5b_T R (slices_EqualFunc_JsonJsonJsonJson_ae5b_4_0_L hrec_json_Same)) 0 a := by
  refine loops_ok 1 (by kernel_rfl) fun i hi => ?_
  match i, hi with
  | 0, _ => exact loopOk_some (by kernel_rfl) (slices_EqualFunc_JsonJsonJsonJson_ae5b_4_0_ok hrec_json_Same _ loopNo_ok)
  | n + 1, hi => omega
theorem slices_EqualFunc_JsonJsonJsonJson_ae5b_S_ok (R : Type) (hrec_json_Same : json_Same_ty R) (hyp_json_Same : Yard.Spec.Ok Tryz.prog 21 (specBy json_Same_p json_Same_q (json_Same_rr hrec_json_Same) specNo)) (other : Yard.Spec R) (ho : Yard.Spec.Ok Tryz.prog 45 other) : Yard.Spec.Ok Tryz.prog 45 (specBy slices_EqualFunc_JsonJsonJsonJson_ae5b_p slices_EqualFunc_JsonJsonJsonJson_ae5b_q (slices_EqualFunc_JsonJsonJsonJson_ae5b_rr (slices_EqualFunc_JsonJsonJsonJson_ae5b hrec_json_Same)) other) :=
  specBy_ok ho (funK_sound TT mixed (slices_EqualFunc_JsonJsonJsonJson_ae5b_EOk R hrec_json_Same hyp_json_Same) (keep := false) rfl rfl rfl rfl 0 (slices_EqualFunc_JsonJsonJsonJson_ae5b_loops R hrec_json_Same)) fun (x : Pat.dens slices_EqualFunc_JsonJsonJsonJson_ae5b_p) (y : HPat.dens slices_EqualFunc_JsonJsonJsonJson_ae5b_q) k => slices_EqualFunc_JsonJsonJsonJson_ae5b_ok hrec_json_Same (slices_EqualFunc_JsonJsonJsonJson_ae5b_4_0_L hrec_json_Same) x.1 x.2.1 k

noncomputable def json_Same_E (R : Type) (slices_EqualFunc_JsonJsonJsonJson_ae5b : slices_EqualFunc_JsonJsonJsonJson_ae5b_ty R) (slices_Equal_stringstring : slices_Equal_stringstring_ty R) : Env R := fun i => match i with
  | 45 => some (true, (specBy slices_EqualFunc_JsonJsonJsonJson_ae5b_p slices_EqualFunc_JsonJsonJsonJson_ae5b_q (slices_EqualFunc_JsonJsonJsonJson_ae5b_rr slices_EqualFunc_JsonJsonJsonJson_ae5b) specNo))
  | 44 => some (true, (specBy slices_Equal_stringstring_p slices_Equal_stringstring_q (slices_Equal_stringstring_rr slices_Equal_stringstring) specNo))
  | _ => none
theorem json_Same_EOk (R : Type) (hrec_json_Same : json_Same_ty R) (hyp_json_Same : Yard.Spec.Ok Tryz.prog 21 (specBy json_Same_p json_Same_q (json_Same_rr hrec_json_Same) specNo)) : EOk Tryz.prog (json_Same_E R (slices_EqualFunc_JsonJsonJsonJson_ae5b hrec_json_Same) slices_Equal_stringstring) := by
  intro i b sp h
  unfold json_Same_E at h
  split at h
  · cases h; exact ⟨(slices_EqualFunc_JsonJsonJsonJson_ae5b_S_ok R hrec_json_Same hyp_json_Same _ (specNo_ok _)), fun h => nomatch h⟩
  · cases h; exact ⟨(slices_Equal_stringstring_S_ok R _ (specNo_ok _)), fun h => nomatch h⟩
  · cases h

noncomputable def json_Same_T (R : Type) : Nat → Option (Hint × LSpec R) := fun i => match i with
  | _ => none

noncomputable def json_Same_X {R : Type} (slices_EqualFunc_JsonJsonJsonJson_ae5b : slices_EqualFunc_JsonJsonJsonJson_ae5b_ty R) (slices_Equal_stringstring : slices_Equal_stringstring_ty R) (x1 : Json) (x2 : Json) (k0 : Bool → Option R) : Option R :=
  bif (x1.kind == x2.kind) then (bif (x1.num.mant == x2.num.mant && (x1.num.exp == x2.num.exp && true)) then (bif (x1.text == x2.text) then (slices_Equal_stringstring x1.names x2.names (fun y3 => bif y3 then (slices_EqualFunc_JsonJsonJsonJson_ae5b x1.items x2.items (fun y4 => k0 y4)) else (k0 false))) else (k0 false)) else (k0 false)) else (k0 false)
noncomputable def json_Same_B {R : Type} (hrec_json_Same : json_Same_ty R) : json_Same_ty R := fun x1 x2 k0 => json_Same_X (slices_EqualFunc_JsonJsonJsonJson_ae5b hrec_json_Same) slices_Equal_stringstring x1 x2 k0
theorem json_Same_ok {R : Type} (slices_EqualFunc_JsonJsonJsonJson_ae5b : slices_EqualFunc_JsonJsonJsonJson_ae5b_ty R) (slices_Equal_stringstring : slices_Equal_stringstring_ty R) (x1 : Json) (x2 : Json) (k : V → Heap → Option R) : funK tt (json_Same_E R slices_EqualFunc_JsonJsonJsonJson_ae5b slices_Equal_stringstring) (json_Same_T R) false Tryz.f21 (codeOf Tryz.f21) [.agg [.int .i64 x1.kind, .int .i64 x1.num.mant, .int .i64 x1.num.exp, .str x1.text, .sl .str x1.names .no, .sl .json x1.items .no], .agg [.int .i64 x2.kind, .int .i64 x2.num.mant, .int .i64 x2.num.exp, .str x2.text, .sl .str x2.names .no, .sl .json x2.items .no]] [] k =
    json_Same_X slices_EqualFunc_JsonJsonJsonJson_ae5b slices_Equal_stringstring x1 x2 (fun q0 => k (.bool q0) []) := by kernel_rfl
theorem json_Same_loops (R : Type) (hrec_json_Same : json_Same_ty R) : ∀ a ∈ loopsOf (codeOf Tryz.f21), LoopOk tt (json_Same_E R (slices_EqualFunc_JsonJsonJsonJson_ae5b hrec_json_Same) slices_Equal_stringstring) (json_Same_T R) 0 a := by
  refine loops_ok 0 (by kernel_rfl) fun i hi => ?_
  omega
theorem json_Same_S_okB (R : Type) (hrec_json_Same : json_Same_ty R) (hyp_json_Same : Yard.Spec.Ok Tryz.prog 21 (specBy json_Same_p json_Same_q (json_Same_rr hrec_json_Same) specNo)) (other : Yard.Spec R) (ho : Yard.Spec.Ok Tryz.prog 21 other) : Yard.Spec.Ok Tryz.prog 21 (specBy json_Same_p json_Same_q (json_Same_rr (json_Same_B hrec_json_Same)) other) :=
  specBy_ok ho (funK_sound TT mixed (json_Same_EOk R hrec_json_Same hyp_json_Same) (keep := false) rfl rfl rfl rfl 0 (json_Same_loops R hrec_json_Same)) fun (x : Pat.dens json_Same_p) (y : HPat.dens json_Same_q) k => json_Same_ok (slices_EqualFunc_JsonJsonJsonJson_ae5b hrec_json_Same) slices_Equal_stringstring (⟨x.1.1, ⟨x.1.2.1, x.1.2.2.1⟩, x.1.2.2.2.1, x.1.2.2.2.2.1, x.1.2.2.2.2.2.1⟩ : Json) (⟨x.2.1.1, ⟨x.2.1.2.1, x.2.1.2.2.1⟩, x.2.1.2.2.2.1, x.2.1.2.2.2.2.1, x.2.1.2.2.2.2.2.1⟩ : Json) k
noncomputable def json_Same_N {R : Type} : Nat → json_Same_ty R
  | 0, _, _, _ => none
  | n + 1, x0', x1', k0' => json_Same_B (json_Same_N n) x0' x1' k0'
theorem json_Same_N_succ {R : Type} (n : Nat) : json_Same_N (R := R) (n + 1) = json_Same_B (json_Same_N n) := by kernel_rfl
theorem json_Same_N_ok (R : Type) : ∀ n, Yard.Spec.Ok Tryz.prog 21 (specBy json_Same_p json_Same_q (json_Same_rr (json_Same_N (R := R) n)) specNo) :=
  specBy_fuel (run := fun n => json_Same_rr (json_Same_N (R := R) n)) (fun x y k => by kernel_rfl) fun n hyp => json_Same_S_okB R (json_Same_N n) hyp specNo (specNo_ok _)
noncomputable def json_Same {R : Type} : json_Same_ty R := fun x1 x2 k0 => json_Same_N (Json.depth x1 + 2) x1 x2 k0
theorem json_Same_r_ok (R : Type) : json_Same_rr (R := R) json_Same = fun x y k => json_Same_rr (json_Same_N (Json.depth (⟨x.1.1, ⟨x.1.2.1, x.1.2.2.1⟩, x.1.2.2.2.1, x.1.2.2.2.2.1, x.1.2.2.2.2.2.1⟩ : Json) + 2)) x y k := by kernel_rfl
theorem json_Same_S_ok (R : Type) (other : Yard.Spec R) (ho : Yard.Spec.Ok Tryz.prog 21 other) : Yard.Spec.Ok Tryz.prog 21 (specBy json_Same_p json_Same_q (json_Same_rr json_Same) other) :=
  specBy_run (specBy_at (run := fun n => json_Same_rr (json_Same_N (R := R) n)) (fun x y => (Json.depth (⟨x.1.1, ⟨x.1.2.1, x.1.2.2.1⟩, x.1.2.2.2.1, x.1.2.2.2.2.1, x.1.2.2.2.2.2.1⟩ : Json) + 2)) ho (json_Same_N_ok R)) (json_Same_r_ok R)

/-! ### humpyard/humpyardlaw04.awake -/
abbrev law04_awake_ty (R : Type) : Type := (Bool → Option R) → Option R
abbrev law04_awake_p : List Pat := []
abbrev law04_awake_q : List HPat := []
noncomputable def law04_awake_rr {R : Type} (fn : law04_awake_ty R) : Pat.dens law04_awake_p → HPat.dens law04_awake_q → (V → Heap → Option R) → Option R := fun x y k => fn (fun q0 => k (.bool q0) [])
noncomputable def law04_awake_E (R : Type) (json_Parse : json_Parse_ty R) (json_Print : json_Print_ty R) (json_Right : json_Right_ty R) (json_Same : json_Same_ty R) : Env R := fun i => match i with
  | 20 => some (true, (specBy json_Parse_p json_Parse_q (json_Parse_rr json_Parse) specNo))
  | 17 => some (true, (specBy json_Print_p json_Print_q (json_Print_rr json_Print) specNo))
  | 32 => some (true, (specBy json_Right_p json_Right_q (json_Right_rr json_Right) specNo))
  | 21 => some (true, (specBy json_Same_p json_Same_q (json_Same_rr json_Same) specNo))
  | _ => none
theorem law04_awake_EOk (R : Type) : EOk Tryz.prog (law04_awake_E R json_Parse json_Print json_Right json_Same) := by
  intro i b sp h
  unfold law04_awake_E at h
  split at h
  · cases h; exact ⟨(json_Parse_S_ok R _ (specNo_ok _)), fun h => nomatch h⟩
  · cases h; exact ⟨(json_Print_S_ok R _ (specNo_ok _)), fun h => nomatch h⟩
  · cases h; exact ⟨(json_Right_S_ok R _ (specNo_ok _)), fun h => nomatch h⟩
  · cases h; exact ⟨(json_Same_S_ok R _ (specNo_ok _)), fun h => nomatch h⟩
  · cases h

noncomputable def law04_awake_T (R : Type) : Nat → Option (Hint × LSpec R) := fun i => match i with
  | _ => none

noncomputable def law04_awake_X {R : Type} (json_Parse : json_Parse_ty R) (json_Print : json_Print_ty R) (json_Right : json_Right_ty R) (json_Same : json_Same_ty R) (k0 : Bool → Option R) : Option R :=
  json_Parse ([32, 123, 34, 97, 34, 32, 58, 32, 91, 49, 46, 53, 48, 44, 32, 110, 117, 108, 108, 93, 125, 32] : Str) (fun y1 y2 y3 => json_Parse ([123, 34, 97, 34, 58, 49, 44, 34, 97, 34] : Str) (fun y4 y5 y6 => bif (y2 == 0) then (bif (y3 == 0) then (json_Print (⟨y1.kind, ⟨y1.num.mant, y1.num.exp⟩, y1.text, y1.names, y1.items⟩ : Json) (fun y7 => bif (y7 == ([123, 34, 97, 34, 58, 91, 49, 46, 53, 44, 110, 117, 108, 108, 93, 125] : Str)) then (bif (y5 == 42) then (bif (y6 == 7) then (json_Right (⟨y1.kind, ⟨y1.num.mant, y1.num.exp⟩, y1.text, y1.names, y1.items⟩ : Json) (fun y8 => bif y8 then (json_Same (⟨y1.kind, ⟨y1.num.mant, y1.num.exp⟩, y1.text, y1.names, y1.items⟩ : Json) (⟨y1.kind, ⟨y1.num.mant, y1.num.exp⟩, y1.text, y1.names, y1.items⟩ : Json) (fun y9 => bif y9 then (json_Same (⟨y1.kind, ⟨y1.num.mant, y1.num.exp⟩, y1.text, y1.names, y1.items⟩ : Json) (⟨0, ⟨0, 0⟩, ([] : Str), ([] : List Str), ([] : List Json)⟩ : Json) (fun y10 => k0 (!y10))) else (k0 false))) else (k0 false))) else (k0 false)) else (k0 false)) else (k0 false))) else (k0 false)) else (k0 false)))
noncomputable def law04_awake {R : Type} : law04_awake_ty R := fun  k0 => law04_awake_X json_Parse json_Print json_Right json_Same  k0
theorem law04_awake_ok {R : Type} (json_Parse : json_Parse_ty R) (json_Print : json_Print_ty R) (json_Right : json_Right_ty R) (json_Same : json_Same_ty R) (k : V → Heap → Option R) : funK tt (law04_awake_E R json_Parse json_Print json_Right json_Same) (law04_awake_T R) false Tryz.f30 (codeOf Tryz.f30) [] [] k =
    law04_awake_X json_Parse json_Print json_Right json_Same  (fun q0 => k (.bool q0) []) := by kernel_rfl
theorem law04_awake_loops (R : Type) : ∀ a ∈ loopsOf (codeOf Tryz.f30), LoopOk tt (law04_awake_E R json_Parse json_Print json_Right json_Same) (law04_awake_T R) 0 a := by
  refine loops_ok 0 (by kernel_rfl) fun i hi => ?_
  omega
theorem law04_awake_S_ok (R : Type) (other : Yard.Spec R) (ho : Yard.Spec.Ok Tryz.prog 30 other) : Yard.Spec.Ok Tryz.prog 30 (specBy law04_awake_p law04_awake_q (law04_awake_rr law04_awake) other) :=
  specBy_ok ho (funK_sound TT mixed (law04_awake_EOk R) (keep := false) rfl rfl rfl rfl 0 (law04_awake_loops R)) fun (x : Pat.dens law04_awake_p) (y : HPat.dens law04_awake_q) k => law04_awake_ok json_Parse json_Print json_Right json_Same  k

/-! ### humpyard/humpyardlaw04.pick -/
abbrev law04_pick_ty (R : Type) : Type := Int → Int → (Int → Option R) → Option R
abbrev law04_pick_p : List Pat := [.leaf (.int .i64), .leaf (.int .i64)]
abbrev law04_pick_q : List HPat := []
noncomputable def law04_pick_rr {R : Type} (fn : law04_pick_ty R) : Pat.dens law04_pick_p → HPat.dens law04_pick_q → (V → Heap → Option R) → Option R := fun x y k => fn x.1 x.2.1 (fun q0 => k (.int .i64 q0) [])
noncomputable def law04_pick_E (R : Type) : Env R := fun i => match i with
  | _ => none
theorem law04_pick_EOk (R : Type) : EOk Tryz.prog (law04_pick_E R) := by
  intro i b sp h
  unfold law04_pick_E at h
  split at h
  · cases h

noncomputable def law04_pick_T (R : Type) : Nat → Option (Hint × LSpec R) := fun i => match i with
  | _ => none

noncomputable def law04_pick_X {R : Type} (x1 : Int) (x2 : Int) (k0 : Int → Option R) : Option R :=
  bif (decide (x1 < (0 : Int))) then (chk (!decide (x2 = 0)) (k0 (Int.tmod (IntKind.i64.wrap (0 - (IntKind.i64.wrap (x1 + 1)))) x2))) else (chk (!decide (x2 = 0)) (k0 (Int.tmod x1 x2)))
noncomputable def law04_pick {R : Type} : law04_pick_ty R := fun x1 x2 k0 => law04_pick_X x1 x2 k0
theorem law04_pick_ok {R : Type} (x1 : Int) (x2 : Int) (k : V → Heap → Option R) : funK tt (law04_pick_E R) (law04_pick_T R) false Tryz.f35 (codeOf Tryz.f35) [.int .i64 x1, .int .i64 x2] [] k =
    law04_pick_X x1 x2 (fun q0 => k (.int .i64 q0) []) := by kernel_rfl
theorem law04_pick_loops (R : Type) : ∀ a ∈ loopsOf (codeOf Tryz.f35), LoopOk tt (law04_pick_E R) (law04_pick_T R) 0 a := by
  refine loops_ok 0 (by kernel_rfl) fun i hi => ?_
  omega
theorem law04_pick_S_ok (R : Type) (other : Yard.Spec R) (ho : Yard.Spec.Ok Tryz.prog 35 other) : Yard.Spec.Ok Tryz.prog 35 (specBy law04_pick_p law04_pick_q (law04_pick_rr law04_pick) other) :=
  specBy_ok ho (funK_sound TT mixed (law04_pick_EOk R) (keep := false) rfl rfl rfl rfl 0 (law04_pick_loops R)) fun (x : Pat.dens law04_pick_p) (y : HPat.dens law04_pick_q) k => law04_pick_ok x.1 x.2.1 k

end Go.Proofs.YtmlkkgfenfdndaaGreatDoor

/-
  Functions of the program as pure Lean functions, and the ties; printed by wip/tools/emit.py.
-/
set_option maxRecDepth 100000
set_option linter.unusedVariables false
namespace Go.Proofs.YtmlkkgfenfdndaaGreatDoor
open Go Go.Yard

end Go.Proofs.YtmlkkgfenfdndaaGreatDoor

/-
  Functions of the program as pure Lean functions, and the ties; printed by wip/tools/emit.py.
-/
set_option maxRecDepth 100000
set_option linter.unusedVariables false
namespace Go.Proofs.YtmlkkgfenfdndaaGreatDoor
open Go Go.Yard

/-! ### humpyard/humpyardlaw04.JsonDeep -/
abbrev law04_JsonDeep_ty (R : Type) : Type := Int → Bool → (Bool → Option R) → Option R
abbrev law04_JsonDeep_p : List Pat := [.leaf (.int .i64), .leaf (.bool)]
abbrev law04_JsonDeep_q : List HPat := []
noncomputable def law04_JsonDeep_rr {R : Type} (fn : law04_JsonDeep_ty R) : Pat.dens law04_JsonDeep_p → HPat.dens law04_JsonDeep_q → (V → Heap → Option R) → Option R := fun x y k => fn x.1 x.2.1 (fun q0 => k (.bool q0) [])
abbrev law04_JsonDeep_6_0_ty (R : Type) : Type := Nat → Bool → Bool → Int → Str → Int → Int → Int → Int → Str → (List Str) → (List Json) → (Bool → Bool → Int → Str → Int → Int → Int → Str → (List Str) → (List Json) → Option R) → Option R
noncomputable def law04_JsonDeep_E (R : Type) (law04_awake : law04_awake_ty R) (law04_pick : law04_pick_ty R) (json_Parse : json_Parse_ty R) (json_Print : json_Print_ty R) (json_Right : json_Right_ty R) (json_Same : json_Same_ty R) : Env R := fun i => match i with
  | 30 => some (true, (specBy law04_awake_p law04_awake_q (law04_awake_rr law04_awake) specNo))
  | 35 => some (true, (specBy law04_pick_p law04_pick_q (law04_pick_rr law04_pick) specNo))
  | 20 => some (true, (specBy json_Parse_p json_Parse_q (json_Parse_rr json_Parse) specNo))
  | 17 => some (true, (specBy json_Print_p json_Print_q (json_Print_rr json_Print) specNo))
  | 32 => some (true, (specBy json_Right_p json_Right_q (json_Right_rr json_Right) specNo))
  | 21 => some (true, (specBy json_Same_p json_Same_q (json_Same_rr json_Same) specNo))
  | _ => none
theorem law04_JsonDeep_EOk (R : Type) : EOk Tryz.prog (law04_JsonDeep_E R law04_awake law04_pick json_Parse json_Print json_Right json_Same) := by
  intro i b sp h
  unfold law04_JsonDeep_E at h
  split at h
  · cases h; exact ⟨(law04_awake_S_ok R _ (specNo_ok _)), fun h => nomatch h⟩
  · cases h; exact ⟨(law04_pick_S_ok R _ (specNo_ok _)), fun h => nomatch h⟩
  · cases h; exact ⟨(json_Parse_S_ok R _ (specNo_ok _)), fun h => nomatch h⟩
  · cases h; exact ⟨(json_Print_S_ok R _ (specNo_ok _)), fun h => nomatch h⟩
  · cases h; exact ⟨(json_Right_S_ok R _ (specNo_ok _)), fun h => nomatch h⟩
  · cases h; exact ⟨(json_Same_S_ok R _ (specNo_ok _)), fun h => nomatch h⟩
  · cases h

noncomputable def law04_JsonDeep_6_0_B {R : Type} (rec' : Bool → Bool → Int → Str → Int → Int → Int → Int → Str → (List Str) → (List Json) → Option R) (x5 : Bool) (x6 : Bool) (x7 : Int) (x8 : Str) (x9 : Int) (x10 : Int) (x11 : Int) (x12 : Int) (x13 : Str) (x14 : List Str) (x15 : List Json) (e0 : Bool → Bool → Int → Str → Int → Int → Int → Str → (List Str) → (List Json) → Option R) : Option R :=
  bif (decide (x9 < x7)) then (bif x5 then (chk (decide (5 + x8.length ≤ 9223372036854775807)) (chk (decide ((([123, 34, 97, 34, 58] : Str) ++ x8).length + 1 ≤ 9223372036854775807)) (rec' x5 x6 x7 ((([123, 34, 97, 34, 58] : Str) ++ x8) ++ ([125] : Str)) (IntKind.i64.wrap (x9 + 1)) 7 0 0 ([] : Str) ([([97] : Str)] : List Str) ([(⟨x10, ⟨x11, x12⟩, x13, x14, x15⟩ : Json)] : List Json)))) else (chk (decide (1 + x8.length ≤ 9223372036854775807)) (chk (decide ((([91] : Str) ++ x8).length + 1 ≤ 9223372036854775807)) (rec' x5 x6 x7 ((([91] : Str) ++ x8) ++ ([93] : Str)) (IntKind.i64.wrap (x9 + 1)) 6 0 0 ([] : Str) ([] : List Str) ([(⟨x10, ⟨x11, x12⟩, x13, x14, x15⟩ : Json)] : List Json))))) else (e0 x5 x6 x7 x8 x10 x11 x12 x13 x14 x15)
noncomputable def law04_JsonDeep_6_0_L {R : Type} : law04_JsonDeep_6_0_ty R
  | 0, _, _, _, _, _, _, _, _, _, _, _, _ => none
  | n + 1, x0', x1', x2', x3', x4', x5', x6', x7', x8', x9', x10', e0 => law04_JsonDeep_6_0_B (fun x0' x1' x2' x3' x4' x5' x6' x7' x8' x9' x10' => law04_JsonDeep_6_0_L n x0' x1' x2' x3' x4' x5' x6' x7' x8' x9' x10' e0) x0' x1' x2' x3' x4' x5' x6' x7' x8' x9' x10' e0
noncomputable def law04_JsonDeep_6_0_h : Hint := { live := [1, 5, 6, 7, 8, 9], own := [], rows := [], cells := [(0, 4, .str, false), (0, 5, .json, false)], drop := [], out := [1, 4, 5, 6, 7, 8] }
abbrev law04_JsonDeep_6_0_D : Type := Bool × Bool × Int × Str × Int × Int × Int × Int × Str × (List Str) × (List Json)
noncomputable def law04_JsonDeep_6_0_enc : law04_JsonDeep_6_0_D → St := fun d => ⟨[.undef, .bool d.1, .undef, .undef, .undef, .bool d.2.1, .int .i64 d.2.2.1, .str d.2.2.2.1, .ptr 0 0, .int .i64 d.2.2.2.2.1, .undef, .undef, .undef, .undef, .undef, .undef, .undef, .undef, .undef, .undef, .undef, .undef, .undef, .undef, .undef, .undef, .undef, .undef, .undef, .undef, .undef, .undef, .undef, .undef, .undef, .undef, .undef, .undef, .undef, .undef, .undef, .undef, .undef, .undef, .undef, .undef, .undef, .undef, .undef, .undef, .undef, .undef, .undef, .undef, .undef, .undef, .undef, .undef, .undef, .undef, .undef, .undef, .undef, .undef, .undef, .undef, .undef, .undef, .undef, .undef, .undef, .undef, .undef, .undef, .undef, .undef, .undef, .undef, .undef, .undef, .undef, .undef, .undef, .undef, .undef, .undef, .undef, .undef, .undef], [.cells [.int .i64 d.2.2.2.2.2.1, .int .i64 d.2.2.2.2.2.2.1, .int .i64 d.2.2.2.2.2.2.2.1, .str d.2.2.2.2.2.2.2.2.1, .sl .str d.2.2.2.2.2.2.2.2.2.1 (.own 1), .sl .json d.2.2.2.2.2.2.2.2.2.2 (.own 2)], .tok, .tok]⟩
noncomputable def law04_JsonDeep_6_0_x0 {R : Type} (K : Ex → St → Option R) (q0 : Bool) (q1 : Bool) (q2 : Int) (q3 : Str) (q4 : Int) (q5 : Int) (q6 : Int) (q7 : Str) (q8 : List Str) (q9 : List Json) : Option R := K (.exit 0) ⟨[.undef, .bool q0, .undef, .undef, .undef, .bool q1, .int .i64 q2, .str q3, .ptr 0 0, .undef, .undef, .undef, .undef, .undef, .undef, .undef, .undef, .undef, .undef, .undef, .undef, .undef, .undef, .undef, .undef, .undef, .undef, .undef, .undef, .undef, .undef, .undef, .undef, .undef, .undef, .undef, .undef, .undef, .undef, .undef, .undef, .undef, .undef, .undef, .undef, .undef, .undef, .undef, .undef, .undef, .undef, .undef, .undef, .undef, .undef, .undef, .undef, .undef, .undef, .undef, .undef, .undef, .undef, .undef, .undef, .undef, .undef, .undef, .undef, .undef, .undef, .undef, .undef, .undef, .undef, .undef, .undef, .undef, .undef, .undef, .undef, .undef, .undef, .undef, .undef, .undef, .undef, .undef, .undef], [.cells [.int .i64 q4, .int .i64 q5, .int .i64 q6, .str q7, .sl .str q8 (.own 1), .sl .json q9 (.own 2)], .tok, .tok]⟩
noncomputable def law04_JsonDeep_6_0_s {R : Type} (K : Ex → St → Option R) (rc : law04_JsonDeep_6_0_D → Option R) (d : law04_JsonDeep_6_0_D) : Option R := law04_JsonDeep_6_0_B (fun z0 z1 z2 z3 z4 z5 z6 z7 z8 z9 z10 => rc (z0, z1, z2, z3, z4, z5, z6, z7, z8, z9, z10)) d.1 d.2.1 d.2.2.1 d.2.2.2.1 d.2.2.2.2.1 d.2.2.2.2.2.1 d.2.2.2.2.2.2.1 d.2.2.2.2.2.2.2.1 d.2.2.2.2.2.2.2.2.1 d.2.2.2.2.2.2.2.2.2.1 d.2.2.2.2.2.2.2.2.2.2 (law04_JsonDeep_6_0_x0 K)
noncomputable def law04_JsonDeep_6_0_A {R : Type} (K : Ex → St → Option R) (n : Nat) (d : law04_JsonDeep_6_0_D) : Option R := law04_JsonDeep_6_0_L n d.1 d.2.1 d.2.2.1 d.2.2.2.1 d.2.2.2.2.1 d.2.2.2.2.2.1 d.2.2.2.2.2.2.1 d.2.2.2.2.2.2.2.1 d.2.2.2.2.2.2.2.2.1 d.2.2.2.2.2.2.2.2.2.1 d.2.2.2.2.2.2.2.2.2.2 (law04_JsonDeep_6_0_x0 K)
abbrev law04_JsonDeep_6_0_p : List Pat := [.leaf (.undef), .leaf (.bool), .leaf (.undef), .leaf (.undef), .leaf (.undef), .leaf (.bool), .leaf (.int .i64), .leaf (.str), .leaf (.ptr 0 0), .leaf (.int .i64), .leaf (.undef), .leaf (.undef), .leaf (.undef), .leaf (.undef), .leaf (.undef), .leaf (.undef), .leaf (.undef), .leaf (.undef), .leaf (.undef), .leaf (.undef), .leaf (.undef), .leaf (.undef), .leaf (.undef), .leaf (.undef), .leaf (.undef), .leaf (.undef), .leaf (.undef), .leaf (.undef), .leaf (.undef), .leaf (.undef), .leaf (.undef), .leaf (.undef), .leaf (.undef), .leaf (.undef), .leaf (.undef), .leaf (.undef), .leaf (.undef), .leaf (.undef), .leaf (.undef), .leaf (.undef), .leaf (.undef), .leaf (.undef), .leaf (.undef), .leaf (.undef), .leaf (.undef), .leaf (.undef), .leaf (.undef), .leaf (.undef), .leaf (.undef), .leaf (.undef), .leaf (.undef), .leaf (.undef), .leaf (.undef), .leaf (.undef), .leaf (.undef), .leaf (.undef), .leaf (.undef), .leaf (.undef), .leaf (.undef), .leaf (.undef), .leaf (.undef), .leaf (.undef), .leaf (.undef), .leaf (.undef), .leaf (.undef), .leaf (.undef), .leaf (.undef), .leaf (.undef), .leaf (.undef), .leaf (.undef), .leaf (.undef), .leaf (.undef), .leaf (.undef), .leaf (.undef), .leaf (.undef), .leaf (.undef), .leaf (.undef), .leaf (.undef), .leaf (.undef), .leaf (.undef), .leaf (.undef), .leaf (.undef), .leaf (.undef), .leaf (.undef), .leaf (.undef), .leaf (.undef), .leaf (.undef), .leaf (.undef), .leaf (.undef)]
abbrev law04_JsonDeep_6_0_q : List HPat := [.cells [.int .i64, .int .i64, .int .i64, .str, .slo .str 1, .slo .json 2], .tok, .tok]
noncomputable def law04_JsonDeep_6_0_f (x : Pat.dens law04_JsonDeep_6_0_p) (y : HPat.dens law04_JsonDeep_6_0_q) : Nat := (Int.natAbs x.2.2.2.2.2.2.1 + List.length x.2.2.2.2.2.2.2.1 + Int.natAbs x.2.2.2.2.2.2.2.2.2.1 + Int.natAbs y.1.1 + Int.natAbs y.1.2.1 + Int.natAbs y.1.2.2.1 + List.length y.1.2.2.2.1 + List.length y.1.2.2.2.2.1 + List.length y.1.2.2.2.2.2.1 + 64)
noncomputable def law04_JsonDeep_6_0_d (x : Pat.dens law04_JsonDeep_6_0_p) (y : HPat.dens law04_JsonDeep_6_0_q) : law04_JsonDeep_6_0_D := (x.2.1, x.2.2.2.2.2.1, x.2.2.2.2.2.2.1, x.2.2.2.2.2.2.2.1, x.2.2.2.2.2.2.2.2.2.1, y.1.1, y.1.2.1, y.1.2.2.1, y.1.2.2.2.1, y.1.2.2.2.2.1, y.1.2.2.2.2.2.1)
noncomputable def law04_JsonDeep_6_0_rr {R : Type} (L : law04_JsonDeep_6_0_ty R) : Pat.dens law04_JsonDeep_6_0_p → HPat.dens law04_JsonDeep_6_0_q → (Ex → St → Option R) → Option R := fun x y K => L (law04_JsonDeep_6_0_f x y) x.2.1 x.2.2.2.2.2.1 x.2.2.2.2.2.2.1 x.2.2.2.2.2.2.2.1 x.2.2.2.2.2.2.2.2.2.1 y.1.1 y.1.2.1 y.1.2.2.1 y.1.2.2.2.1 y.1.2.2.2.2.1 y.1.2.2.2.2.2.1 (law04_JsonDeep_6_0_x0 K)
noncomputable def law04_JsonDeep_T (R : Type) (law04_JsonDeep_6_0_L : law04_JsonDeep_6_0_ty R) : Nat → Option (Hint × LSpec R) := fun i => match i with
  | 6 => some (law04_JsonDeep_6_0_h, (loopBy law04_JsonDeep_6_0_p law04_JsonDeep_6_0_q (law04_JsonDeep_6_0_rr law04_JsonDeep_6_0_L) loopNo))
  | _ => none

theorem law04_JsonDeep_6_0_B_ok {R : Type} (law04_awake : law04_awake_ty R) (law04_pick : law04_pick_ty R) (json_Parse : json_Parse_ty R) (json_Print : json_Print_ty R) (json_Right : json_Right_ty R) (json_Same : json_Same_ty R) (law04_JsonDeep_6_0_L : law04_JsonDeep_6_0_ty R) (K : Ex → St → Option R) (rc : St → Option R) (d : law04_JsonDeep_6_0_D) : roundOf tt (law04_JsonDeep_E R law04_awake law04_pick json_Parse json_Print json_Right json_Same) (law04_JsonDeep_T R law04_JsonDeep_6_0_L) 0 ((loopsOf (codeOf Tryz.f14)).getD 0 .skip) law04_JsonDeep_6_0_h (law04_JsonDeep_6_0_enc d) rc K = law04_JsonDeep_6_0_s K (fun d => rc (law04_JsonDeep_6_0_enc d)) d := by kernel_rfl
theorem law04_JsonDeep_6_0_A_succ {R : Type} (K : Ex → St → Option R) (n : Nat) (d : law04_JsonDeep_6_0_D) : law04_JsonDeep_6_0_A K (n + 1) d = law04_JsonDeep_6_0_s K (law04_JsonDeep_6_0_A K n) d := by kernel_rfl
theorem law04_JsonDeep_6_0_A_zero {R : Type} (K : Ex → St → Option R) (d : law04_JsonDeep_6_0_D) : law04_JsonDeep_6_0_A K 0 d = none := by kernel_rfl
theorem law04_JsonDeep_6_0_e_ok (x : Pat.dens law04_JsonDeep_6_0_p) (y : HPat.dens law04_JsonDeep_6_0_q) : (⟨Pat.encL law04_JsonDeep_6_0_p x, HPat.encL law04_JsonDeep_6_0_q y⟩ : St) = law04_JsonDeep_6_0_enc (law04_JsonDeep_6_0_d x y) := by kernel_rfl
theorem law04_JsonDeep_6_0_r_ok {R : Type} (x : Pat.dens law04_JsonDeep_6_0_p) (y : HPat.dens law04_JsonDeep_6_0_q) (K : Ex → St → Option R) : law04_JsonDeep_6_0_rr (law04_JsonDeep_6_0_L) x y K = law04_JsonDeep_6_0_A K (law04_JsonDeep_6_0_f x y) (law04_JsonDeep_6_0_d x y) := by kernel_rfl
theorem law04_JsonDeep_6_0_ok {R : Type} (other : LSpec R) (ho : LsOk tt (law04_JsonDeep_E R law04_awake law04_pick json_Parse json_Print json_Right json_Same) (law04_JsonDeep_T R law04_JsonDeep_6_0_L) 0 ((loopsOf (codeOf Tryz.f14)).getD 0 .skip) law04_JsonDeep_6_0_h other) : LsOk tt (law04_JsonDeep_E R law04_awake law04_pick json_Parse json_Print json_Right json_Same) (law04_JsonDeep_T R law04_JsonDeep_6_0_L) 0 ((loopsOf (codeOf Tryz.f14)).getD 0 .skip) law04_JsonDeep_6_0_h (loopBy law04_JsonDeep_6_0_p law04_JsonDeep_6_0_q (law04_JsonDeep_6_0_rr (law04_JsonDeep_6_0_L)) other) :=
  loopBy_tie (A := law04_JsonDeep_6_0_A) ho (loop_tie law04_JsonDeep_6_0_enc (law04_JsonDeep_6_0_s) (law04_JsonDeep_6_0_A) (law04_JsonDeep_6_0_A_zero) (law04_JsonDeep_6_0_B_ok law04_awake law04_pick json_Parse json_Print json_Right json_Same law04_JsonDeep_6_0_L) (law04_JsonDeep_6_0_A_succ)) law04_JsonDeep_6_0_f law04_JsonDeep_6_0_d law04_JsonDeep_6_0_e_ok (law04_JsonDeep_6_0_r_ok)

noncomputable def law04_JsonDeep_X {R : Type} (law04_awake : law04_awake_ty R) (law04_pick : law04_pick_ty R) (json_Parse : json_Parse_ty R) (json_Print : json_Print_ty R) (json_Right : json_Right_ty R) (json_Same : json_Same_ty R) (law04_JsonDeep_6_0_L : law04_JsonDeep_6_0_ty R) (x1 : Int) (x2 : Bool) (k0 : Bool → Option R) : Option R :=
  law04_awake (fun y3 => law04_pick x1 30 (fun y4 => law04_JsonDeep_6_0_L (Int.natAbs (IntKind.i64.wrap (1 + y4)) + List.length ([49] : Str) + Int.natAbs 1 + Int.natAbs 4 + Int.natAbs 1 + Int.natAbs 0 + List.length ([] : Str) + List.length ([] : List Str) + List.length ([] : List Json) + 64) x2 y3 (IntKind.i64.wrap (1 + y4)) ([49] : Str) 1 4 1 0 ([] : Str) ([] : List Str) ([] : List Json) (fun y16 y17 y18 y19 y20 y21 y22 y23 y24 y25 => json_Parse y19 (fun y26 y27 y28 => bif (decide (y18 > (16 : Int))) then (let j33 := fun (z29 : Int) => bif y17 then (json_Right (⟨y20, ⟨y21, y22⟩, y23, y24, y25⟩ : Json) (fun y30 => bif (!y30) then (json_Print (⟨y20, ⟨y21, y22⟩, y23, y24, y25⟩ : Json) (fun y31 => bif (y31 == ([] : Str)) then (bif (y27 == 41) then (k0 (y28 == (IntKind.i64.wrap (16 * z29)))) else (k0 false)) else (k0 false))) else (k0 false))) else (k0 false); bif y16 then (j33 5) else (j33 1)) else (bif y17 then (json_Right (⟨y20, ⟨y21, y22⟩, y23, y24, y25⟩ : Json) (fun y34 => bif y34 then (json_Print (⟨y20, ⟨y21, y22⟩, y23, y24, y25⟩ : Json) (fun y35 => bif (y35 == y19) then (bif (y27 == 0) then (json_Same (⟨y20, ⟨y21, y22⟩, y23, y24, y25⟩ : Json) (⟨y26.kind, ⟨y26.num.mant, y26.num.exp⟩, y26.text, y26.names, y26.items⟩ : Json) (fun y36 => k0 y36)) else (k0 false)) else (k0 false))) else (k0 false))) else (k0 false))))))
noncomputable def law04_JsonDeep {R : Type} : law04_JsonDeep_ty R := fun x1 x2 k0 => law04_JsonDeep_X law04_awake law04_pick json_Parse json_Print json_Right json_Same law04_JsonDeep_6_0_L x1 x2 k0
theorem law04_JsonDeep_ok {R : Type} (law04_awake : law04_awake_ty R) (law04_pick : law04_pick_ty R) (json_Parse : json_Parse_ty R) (json_Print : json_Print_ty R) (json_Right : json_Right_ty R) (json_Same : json_Same_ty R) (law04_JsonDeep_6_0_L : law04_JsonDeep_6_0_ty R) (x1 : Int) (x2 : Bool) (k : V → Heap → Option R) : funK tt (law04_JsonDeep_E R law04_awake law04_pick json_Parse json_Print json_Right json_Same) (law04_JsonDeep_T R law04_JsonDeep_6_0_L) false Tryz.f14 (codeOf Tryz.f14) [.int .i64 x1, .bool x2] [] k =
    law04_JsonDeep_X law04_awake law04_pick json_Parse json_Print json_Right json_Same law04_JsonDeep_6_0_L x1 x2 (fun q0 => k (.bool q0) []) := by kernel_rfl
theorem law04_JsonDeep_loops (R : Type) : ∀ a ∈ loopsOf (codeOf Tryz.f14), LoopOk tt (law04_JsonDeep_E R law04_awake law04_pick json_Parse json_Print json_Right json_Same) (law04_JsonDeep_T R law04_JsonDeep_6_0_L) 0 a := by
  refine loops_ok 1 (by kernel_rfl) fun i hi => ?_
  match i, hi with
  | 0, _ => exact loopOk_some (by kernel_rfl) (law04_JsonDeep_6_0_ok _ loopNo_ok)
  | n + 1, hi => omega
theorem law04_JsonDeep_S_ok (R : Type) (other : Yard.Spec R) (ho : Yard.Spec.Ok Tryz.prog 14 other) : Yard.Spec.Ok Tryz.prog 14 (specBy law04_JsonDeep_p law04_JsonDeep_q (law04_JsonDeep_rr law04_JsonDeep) other) :=
  specBy_ok ho (funK_sound TT mixed (law04_JsonDeep_EOk R) (keep := false) rfl rfl rfl rfl 0 (law04_JsonDeep_loops R)) fun (x : Pat.dens law04_JsonDeep_p) (y : HPat.dens law04_JsonDeep_q) k => law04_JsonDeep_ok law04_awake law04_pick json_Parse json_Print json_Right json_Same law04_JsonDeep_6_0_L x.1 x.2.1 k

end Go.Proofs.YtmlkkgfenfdndaaGreatDoor

set_option linter.unusedVariables false
set_option maxRecDepth 100000
namespace Go.Proofs.YtmlkkgfenfdndaaGreatDoor
open Go Go.Yard Go.Lib

theorem awake04 {R : Type} (k : Bool → Option R) : law04_awake k = k true := by kernel_rfl

theorem pick04 {R : Type} (c n : Int) (hc : I64 c) (h0 : 0 < n) (hn : n ≤ 9223372036854775807) : ∃ r : Int, 0 ≤ r ∧ r < n ∧ ∀ k : Int → Option R, law04_pick c n k = k r := pick_raw c n hc h0 hn

noncomputable def deepF {R : Type} (y : Int) (b : Bool) (k : Bool → Option R) : Option R :=
  law04_JsonDeep_X (fun q => q true) (fun _ _ q => q y) json_Parse json_Print json_Right json_Same law04_JsonDeep_6_0_L 0 b k

theorem deep_0_false {R : Type} (k : Bool → Option R) : deepF 0 false k = k true := by kernel_rfl
theorem deep_0_true {R : Type} (k : Bool → Option R) : deepF 0 true k = k true := by kernel_rfl
theorem deep_1_false {R : Type} (k : Bool → Option R) : deepF 1 false k = k true := by kernel_rfl
theorem deep_1_true {R : Type} (k : Bool → Option R) : deepF 1 true k = k true := by kernel_rfl
theorem deep_2_false {R : Type} (k : Bool → Option R) : deepF 2 false k = k true := by kernel_rfl
theorem deep_2_true {R : Type} (k : Bool → Option R) : deepF 2 true k = k true := by kernel_rfl
theorem deep_3_false {R : Type} (k : Bool → Option R) : deepF 3 false k = k true := by kernel_rfl
theorem deep_3_true {R : Type} (k : Bool → Option R) : deepF 3 true k = k true := by kernel_rfl
theorem deep_4_false {R : Type} (k : Bool → Option R) : deepF 4 false k = k true := by kernel_rfl
theorem deep_4_true {R : Type} (k : Bool → Option R) : deepF 4 true k = k true := by kernel_rfl
theorem deep_5_false {R : Type} (k : Bool → Option R) : deepF 5 false k = k true := by kernel_rfl
theorem deep_5_true {R : Type} (k : Bool → Option R) : deepF 5 true k = k true := by kernel_rfl
theorem deep_6_false {R : Type} (k : Bool → Option R) : deepF 6 false k = k true := by kernel_rfl
theorem deep_6_true {R : Type} (k : Bool → Option R) : deepF 6 true k = k true := by kernel_rfl
theorem deep_7_false {R : Type} (k : Bool → Option R) : deepF 7 false k = k true := by kernel_rfl
theorem deep_7_true {R : Type} (k : Bool → Option R) : deepF 7 true k = k true := by kernel_rfl
theorem deep_8_false {R : Type} (k : Bool → Option R) : deepF 8 false k = k true := by kernel_rfl
theorem deep_8_true {R : Type} (k : Bool → Option R) : deepF 8 true k = k true := by kernel_rfl
theorem deep_9_false {R : Type} (k : Bool → Option R) : deepF 9 false k = k true := by kernel_rfl
theorem deep_9_true {R : Type} (k : Bool → Option R) : deepF 9 true k = k true := by kernel_rfl
theorem deep_10_false {R : Type} (k : Bool → Option R) : deepF 10 false k = k true := by kernel_rfl
theorem deep_10_true {R : Type} (k : Bool → Option R) : deepF 10 true k = k true := by kernel_rfl
theorem deep_11_false {R : Type} (k : Bool → Option R) : deepF 11 false k = k true := by kernel_rfl
theorem deep_11_true {R : Type} (k : Bool → Option R) : deepF 11 true k = k true := by kernel_rfl
theorem deep_12_false {R : Type} (k : Bool → Option R) : deepF 12 false k = k true := by kernel_rfl
theorem deep_12_true {R : Type} (k : Bool → Option R) : deepF 12 true k = k true := by kernel_rfl
theorem deep_13_false {R : Type} (k : Bool → Option R) : deepF 13 false k = k true := by kernel_rfl
theorem deep_13_true {R : Type} (k : Bool → Option R) : deepF 13 true k = k true := by kernel_rfl
theorem deep_14_false {R : Type} (k : Bool → Option R) : deepF 14 false k = k true := by kernel_rfl
theorem deep_14_true {R : Type} (k : Bool → Option R) : deepF 14 true k = k true := by kernel_rfl
theorem deep_15_false {R : Type} (k : Bool → Option R) : deepF 15 false k = k true := by kernel_rfl
theorem deep_15_true {R : Type} (k : Bool → Option R) : deepF 15 true k = k true := by kernel_rfl
theorem deep_16_false {R : Type} (k : Bool → Option R) : deepF 16 false k = k true := by kernel_rfl
theorem deep_16_true {R : Type} (k : Bool → Option R) : deepF 16 true k = k true := by kernel_rfl
theorem deep_17_false {R : Type} (k : Bool → Option R) : deepF 17 false k = k true := by kernel_rfl
theorem deep_17_true {R : Type} (k : Bool → Option R) : deepF 17 true k = k true := by kernel_rfl
theorem deep_18_false {R : Type} (k : Bool → Option R) : deepF 18 false k = k true := by kernel_rfl
theorem deep_18_true {R : Type} (k : Bool → Option R) : deepF 18 true k = k true := by kernel_rfl
theorem deep_19_false {R : Type} (k : Bool → Option R) : deepF 19 false k = k true := by kernel_rfl
theorem deep_19_true {R : Type} (k : Bool → Option R) : deepF 19 true k = k true := by kernel_rfl
theorem deep_20_false {R : Type} (k : Bool → Option R) : deepF 20 false k = k true := by kernel_rfl
theorem deep_20_true {R : Type} (k : Bool → Option R) : deepF 20 true k = k true := by kernel_rfl
theorem deep_21_false {R : Type} (k : Bool → Option R) : deepF 21 false k = k true := by kernel_rfl
theorem deep_21_true {R : Type} (k : Bool → Option R) : deepF 21 true k = k true := by kernel_rfl
theorem deep_22_false {R : Type} (k : Bool → Option R) : deepF 22 false k = k true := by kernel_rfl
theorem deep_22_true {R : Type} (k : Bool → Option R) : deepF 22 true k = k true := by kernel_rfl
theorem deep_23_false {R : Type} (k : Bool → Option R) : deepF 23 false k = k true := by kernel_rfl
theorem deep_23_true {R : Type} (k : Bool → Option R) : deepF 23 true k = k true := by kernel_rfl
theorem deep_24_false {R : Type} (k : Bool → Option R) : deepF 24 false k = k true := by kernel_rfl
theorem deep_24_true {R : Type} (k : Bool → Option R) : deepF 24 true k = k true := by kernel_rfl
theorem deep_25_false {R : Type} (k : Bool → Option R) : deepF 25 false k = k true := by kernel_rfl
theorem deep_25_true {R : Type} (k : Bool → Option R) : deepF 25 true k = k true := by kernel_rfl
theorem deep_26_false {R : Type} (k : Bool → Option R) : deepF 26 false k = k true := by kernel_rfl
theorem deep_26_true {R : Type} (k : Bool → Option R) : deepF 26 true k = k true := by kernel_rfl
theorem deep_27_false {R : Type} (k : Bool → Option R) : deepF 27 false k = k true := by kernel_rfl
theorem deep_27_true {R : Type} (k : Bool → Option R) : deepF 27 true k = k true := by kernel_rfl
theorem deep_28_false {R : Type} (k : Bool → Option R) : deepF 28 false k = k true := by kernel_rfl
theorem deep_28_true {R : Type} (k : Bool → Option R) : deepF 28 true k = k true := by kernel_rfl
theorem deep_29_false {R : Type} (k : Bool → Option R) : deepF 29 false k = k true := by kernel_rfl
theorem deep_29_true {R : Type} (k : Bool → Option R) : deepF 29 true k = k true := by kernel_rfl

theorem deep_all {R : Type} (y : Int) (h0 : 0 ≤ y) (h1 : y < 30) (b : Bool) (k : Bool → Option R) : deepF y b k = k true := by
  obtain ⟨n, rfl⟩ := Int.eq_ofNat_of_zero_le h0
  have hn : n < 30 := by omega
  match n, hn, b with
  | 0, _, false => exact deep_0_false k
  | 0, _, true => exact deep_0_true k
  | 1, _, false => exact deep_1_false k
  | 1, _, true => exact deep_1_true k
  | 2, _, false => exact deep_2_false k
  | 2, _, true => exact deep_2_true k
  | 3, _, false => exact deep_3_false k
  | 3, _, true => exact deep_3_true k
  | 4, _, false => exact deep_4_false k
  | 4, _, true => exact deep_4_true k
  | 5, _, false => exact deep_5_false k
  | 5, _, true => exact deep_5_true k
  | 6, _, false => exact deep_6_false k
  | 6, _, true => exact deep_6_true k
  | 7, _, false => exact deep_7_false k
  | 7, _, true => exact deep_7_true k
  | 8, _, false => exact deep_8_false k
  | 8, _, true => exact deep_8_true k
  | 9, _, false => exact deep_9_false k
  | 9, _, true => exact deep_9_true k
  | 10, _, false => exact deep_10_false k
  | 10, _, true => exact deep_10_true k
  | 11, _, false => exact deep_11_false k
  | 11, _, true => exact deep_11_true k
  | 12, _, false => exact deep_12_false k
  | 12, _, true => exact deep_12_true k
  | 13, _, false => exact deep_13_false k
  | 13, _, true => exact deep_13_true k
  | 14, _, false => exact deep_14_false k
  | 14, _, true => exact deep_14_true k
  | 15, _, false => exact deep_15_false k
  | 15, _, true => exact deep_15_true k
  | 16, _, false => exact deep_16_false k
  | 16, _, true => exact deep_16_true k
  | 17, _, false => exact deep_17_false k
  | 17, _, true => exact deep_17_true k
  | 18, _, false => exact deep_18_false k
  | 18, _, true => exact deep_18_true k
  | 19, _, false => exact deep_19_false k
  | 19, _, true => exact deep_19_true k
  | 20, _, false => exact deep_20_false k
  | 20, _, true => exact deep_20_true k
  | 21, _, false => exact deep_21_false k
  | 21, _, true => exact deep_21_true k
  | 22, _, false => exact deep_22_false k
  | 22, _, true => exact deep_22_true k
  | 23, _, false => exact deep_23_false k
  | 23, _, true => exact deep_23_true k
  | 24, _, false => exact deep_24_false k
  | 24, _, true => exact deep_24_true k
  | 25, _, false => exact deep_25_false k
  | 25, _, true => exact deep_25_true k
  | 26, _, false => exact deep_26_false k
  | 26, _, true => exact deep_26_true k
  | 27, _, false => exact deep_27_false k
  | 27, _, true => exact deep_27_true k
  | 28, _, false => exact deep_28_false k
  | 28, _, true => exact deep_28_true k
  | 29, _, false => exact deep_29_false k
  | 29, _, true => exact deep_29_true k
  | n + 30, h, _ => omega

theorem jsonDeep_true {R : Type} (x : Int) (b : Bool) (hx : Small 1048576 (.int .i64 x)) (hb : Small 1048576 (.bool b)) (k : Bool → Option R) : law04_JsonDeep x b k = k true := by
  have e : law04_JsonDeep x b k = law04_JsonDeep_X law04_awake law04_pick json_Parse json_Print json_Right json_Same law04_JsonDeep_6_0_L x b k := rfl
  rw [e]
  obtain ⟨y, y0, y1, hy⟩ := pick04 (R := R) x 30 (i64_has.1 hx.int_inv) (by omega) (by omega)
  have e2 := deep_all y y0 y1 b k
  unfold deepF at e2
  unfold law04_JsonDeep_X at e2 ⊢
  rw [awake04, hy]
  exact e2
end Go.Proofs.YtmlkkgfenfdndaaGreatDoor

set_option linter.unusedVariables false
set_option maxRecDepth 100000
namespace Go.Proofs.YtmlkkgfenfdndaaGreatDoor.jsonDeep
open Go.ChangeShapes Go.WideShapes Go.ChangeAt Go.RowKit Go.Yard Door

theorem run (a0 : Int) (a1 : Bool) : specBy law04_JsonDeep_p law04_JsonDeep_q (law04_JsonDeep_rr law04_JsonDeep) specNo [.int .i64 a0, .bool a1] [] kOk = law04_JsonDeep a0 a1 (fun q0 => kOk (.bool q0) []) := by kernel_rfl

theorem contract (H : Type) (enc : TypeId × Value → H) (W : World) (base : Nat) (args : Array Value) (ds gs : List (DataW H)) (before : List MemPlace)
    (hval : ∀ (j : Nat) t v, Tryz.f14.params[j]? = some t → args[j]? = some v → Value.okWide Tryz.prog W .any base t v)
    (hW : DataW.Whole enc Tryz.prog Tryz.f14.params.toList Rows.jsonDeepSpec.vars false W args.toList ds gs before) (hL : laidMetH Tryz.prog Rows.jsonDeepUptoRow.laid W) (hk : Rows.uptoSmall H (ds ++ gs) = true) :
    Calls Tryz.prog 14 args W fun e W' => ∃ v, e = .returned v ∧ Rows.jsonDeepSpec.post enc Tryz.prog Tryz.f14 false true false false W args v W' := by
  have hW' := hW
  obtain ⟨p, q, hA0, hV, hpq, hfz, hnd⟩ := hW
  have hA : DataW.TrodAll enc Tryz.prog W 0 (fun _ => true) true [3, 4] args.toList ds p := hA0
  have hval : ∀ (j : Nat) t v, (#[3, 4] : Array Nat)[j]? = some t → args[j]? = some v → Value.okWide Tryz.prog W .any base t v := hval
  obtain ⟨v0, vs0, d0, ds0, p0, q0, hargs, rfl, rfl, h0, r0⟩ := trodAll_cons hA
  obtain ⟨v1, vs1, d1, ds1, p1, q1, rfl, rfl, rfl, h1, r1⟩ := trodAll_cons r0
  obtain ⟨rfl, rfl, rfl⟩ := trodAll_nil r1
  obtain rfl : args = #[v0, v1] := by cases args; simp_all
  have hV' : DataW.TrodVars enc Tryz.prog W (fun _ => true) [] gs q := hV
  obtain ⟨rfl, rfl⟩ := trodVars_none hV'
  have hb : Rows.uptoBulkAll ([d0, d1] ++ []) ≤ 1048576 := of_decide_eq_true hk
  simp only [List.append_nil, Rows.uptoBulkAll] at hb
  obtain ⟨a0, q0, s0⟩ := arg_one (p := .int .i64) (N := 1048576) leaves (by kernel_rfl) (by kernel_rfl) (hval 0 3 v0 rfl rfl) h0 (by omega) (Nat.le_of_ble_eq_true rfl)
  obtain ⟨a1, q1, s1⟩ := arg_one (p := .bool) (N := 1048576) leaves (by kernel_rfl) (by kernel_rfl) (hval 1 4 v1 rfl rfl) h1 (by omega) (Nat.le_of_ble_eq_true rfl)
  have ra : RepL W [] cfg0 [.int .i64 a0, .bool a1] #[v0, v1].toList := (.cons q0 (.cons q1 .nil))
  obtain ⟨hsays, hblocks⟩ := lay_met (W := W) hL
  refine (calls_true Tryz.func14 rfl rfl (law04_JsonDeep_S_ok Unit _ (specNo_ok _)) hsays hblocks ra ((run a0 a1).trans (jsonDeep_true a0 a1 s0 s1 (fun q0 => kOk (.bool q0) [])))).mono fun e W' ⟨he, L⟩ => ⟨_, he, ?_⟩
  exact post_true (by kernel_rfl) (params_ok (by kernel_rfl)) rfl rfl rfl (show Tryz.prog.underlying 4 = some .bool by kernel_rfl) hW' L

theorem reads (os : Os) {H : Type} (enc : TypeId × Value → H) : (DataW.whole enc Tryz.prog ((laidWorld os).forCall (fun _ _ => 0) ⟨#[], #[.int .i64 0, .bool false], []⟩).memory Tryz.f14.params.toList Rows.jsonDeepSpec.vars false (#[.int .i64 0, .bool false] : Array Value).toList 8).map (fun x => (x.1, x.2.1)) = some ([.lit (.int .i64 0), .lit (.bool false)], []) := by kernel_rfl
theorem lifted (os : Os) (started : os.Started) (H : Type) (enc : TypeId × Value → H) (F : Stop.Interp) :
    ReturnsInHanded {} Tryz.checked os 14 .any ((Rows.OpenSpec.upto Rows.jsonDeepSpec).preRow enc Tryz.prog Tryz.f14 Rows.jsonDeepUptoRow.domain false Rows.jsonDeepUptoRow.laid) (((Rows.OpenSpec.upto Rows.jsonDeepSpec).at F).post enc Tryz.prog Tryz.f14 false true false false) := by
  obtain ⟨⟨x1, x2, x3⟩, hx, hx1⟩ := Option.map_eq_some_iff.1 (reads os enc)
  simp only [Prod.mk.injEq] at hx1
  obtain ⟨rfl, rfl⟩ := hx1
  refine returnsInHanded_of_row (C := Tryz.checked) (s := Rows.OpenSpec.upto Rows.jsonDeepSpec) own started (by kernel_rfl) Tryz.func14
    (witness_row_atRef (enc := enc) (C := Tryz.checked) false (laidWorld os) #[.int .i64 0, .bool false] rfl (by kernel_rfl) (by kernel_rfl) (by kernel_rfl)
      (OpenSpec.preRow_of_cond 8 hx (by kernel_rfl) (fun k hk => by cases hk; kernel_rfl) (by kernel_rfl) (laid_met os _))) ?_
  intro W base args ds gs before hval hW _ hcond _ hL _ _
  exact contract H enc W base args ds gs before hval hW hL (hcond _ rfl)

theorem saidUpto : Rows.JsonDeepUptoSaid :=
  OpenClaim.holds_of_cond 14 Tryz.f14 rfl rfl rfl rfl rfl rfl rfl ⟨rfl, rfl, rfl, rfl, rfl⟩ rfl rfl rfl rfl rfl (by kernel_rfl) Tryz.func14 (by kernel_rfl)
    (of_decide_eq_true (by kernel_rfl)) (by unfold Func.isWrapper; first | (rw [if_pos (by decide +kernel)]; kernel_rfl) | (rw [if_neg (by decide +kernel)]; exact ⟨rfl, rfl⟩))
    (fun os started H enc _ F => by rw [OpenClaim.pre_eq_preRow]; exact lifted os started H enc F)

theorem plain (f : FuncId) (fn : Func) (hf : Tryz.pinned.checked.prog.funcNamed "humpyard/humpyardlaw04.JsonDeep" = some f) (hfn : Tryz.pinned.checked.prog.funcs[f]? = some fn) :
    true = Tryz.pinned.checked.prog.looks [] ∧ ∀ (j : Nat) t, fn.params[j]? = some t → Tryz.pinned.checked.prog.wantsStandIn t = false := by
  obtain rfl : f = 14 := Option.some.inj ((show Tryz.prog.funcNamed "humpyard/humpyardlaw04.JsonDeep" = some 14 by kernel_rfl).symm.trans hf) |>.symm
  obtain rfl : fn = Tryz.f14 := (Option.some.inj (Tryz.func14.symm.trans hfn)).symm
  refine ⟨by kernel_rfl, fun j t ht => ?_⟩
  have hall : Tryz.f14.params.toList.all (fun t => !Tryz.prog.wantsStandIn t) = true := by kernel_rfl
  have hm : t ∈ Tryz.f14.params.toList := Array.mem_toList_iff.2 (Array.mem_of_getElem? ht)
  have := List.all_eq_true.1 hall t hm
  exact (show Tryz.prog.wantsStandIn t = false by simpa using this)
end Go.Proofs.YtmlkkgfenfdndaaGreatDoor.jsonDeep
namespace Go.Proofs.YtmlkkgfenfdndaaGreatDoor
open Go.RowKit
theorem jsonDeep_card_upto : Rows.JsonDeepUptoCardSaid :=
  Claim7.holds_tied_plain_at .later [] _ _ _ _ jsonDeep.saidUpto (fun _ h => by cases h) (by kernel_rfl) (fun _ h => by cases h) jsonDeepUpto_row_tie rfl ⟨rfl, rfl⟩ (by kernel_rfl) rfl jsonDeep.plain (by kernel_rfl)
end Go.Proofs.YtmlkkgfenfdndaaGreatDoor

