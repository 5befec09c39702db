/-
  JsonDeep: for every input whose bulk is at most 1048576 the law returns true, and each argument reads behind the call as it read before; part 8 of 9 of the proof: an interpreter of the model's code over typed data, proved sound; the functions that the law reaches, printed as Lean functions and tied; the plain law. Own texts laid one behind the other.
-/
import Derived.Lib.ItoaMem
import Derived.Test.YtmlkkgfenfdndaaGreatDoorJsonDeepB7
set_option linter.unusedSimpArgs false
set_option linter.unnecessarySimpa false
set_option linter.unusedVariables false
set_option linter.unusedSectionVars false
/-
  Functions of the program as pure Lean functions, and the ties; printed by wip/tools/emit.py.
-/
set_option maxRecDepth 100000
set_option linter.unusedVariables false
namespace Go.Proofs.YtmlkkgfenfdndaaGreatDoor
open Go Go.Yard

/-! ### (*strings.Builder).WriteRune -/
abbrev strings_Builder_WriteRune_dc6e_ty (R : Type) : Type := Int → (List Int) → (Int → (List Int) → Option R) → Option R
abbrev strings_Builder_WriteRune_dc6e_p : List Pat := [.leaf (.ptr 0 0), .leaf (.int .i32)]
abbrev strings_Builder_WriteRune_dc6e_q : List HPat := [.bld (.slo (.int .u8) 1), .tok]
noncomputable def strings_Builder_WriteRune_dc6e_rr {R : Type} (fn : strings_Builder_WriteRune_dc6e_ty R) : Pat.dens strings_Builder_WriteRune_dc6e_p → HPat.dens strings_Builder_WriteRune_dc6e_q → (V → Heap → Option R) → Option R := fun x y k => fn x.2.1 y.1 (fun q0 q1 => k (.tuple [.int .i64 q0, .niliface]) [.bld (.sl (.int .u8) q1 (.own 2)), .dead, .tok])
noncomputable def strings_Builder_WriteRune_dc6e_E (R : Type) (unicode_utf8_AppendRune_7b6c : unicode_utf8_AppendRune_7b6c_ty R) : Env R := fun i => match i with
  | 73 => some (false, (bcc_S R))
  | 74 => some (false, (specBy unicode_utf8_AppendRune_7b6c_p unicode_utf8_AppendRune_7b6c_q (unicode_utf8_AppendRune_7b6c_rr unicode_utf8_AppendRune_7b6c) specNo))
  | _ => none
theorem strings_Builder_WriteRune_dc6e_EOk (R : Type) : EOk Tryz.prog (strings_Builder_WriteRune_dc6e_E R unicode_utf8_AppendRune_7b6c) := by
  intro i b sp h
  unfold strings_Builder_WriteRune_dc6e_E at h
  split at h
  · cases h; exact ⟨(bcc_is), fun _ h => nomatch h⟩
  · cases h; exact ⟨(unicode_utf8_AppendRune_7b6c_S_ok R _ (specNo_ok _)), fun _ h => nomatch h⟩
  · cases h

noncomputable def strings_Builder_WriteRune_dc6e_T (R : Type) : Nat → Option (Hint × LSpec R) := fun i => match i with
  | _ => none

noncomputable def strings_Builder_WriteRune_dc6e_X {R : Type} (unicode_utf8_AppendRune_7b6c : unicode_utf8_AppendRune_7b6c_ty R) (x1 : Int) (x2 : List Int) (k0 : Int → (List Int) → Option R) : Option R :=
  unicode_utf8_AppendRune_7b6c x2 x1 (fun y3 => k0 (IntKind.i64.wrap ((y3.length : Int) - (x2.length : Int))) y3)
noncomputable def strings_Builder_WriteRune_dc6e {R : Type} : strings_Builder_WriteRune_dc6e_ty R := fun x1 x2 k0 => strings_Builder_WriteRune_dc6e_X unicode_utf8_AppendRune_7b6c x1 x2 k0
theorem strings_Builder_WriteRune_dc6e_ok {R : Type} (unicode_utf8_AppendRune_7b6c : unicode_utf8_AppendRune_7b6c_ty R) (x1 : Int) (x2 : List Int) (k : V → Heap → Option R) : funK tt (strings_Builder_WriteRune_dc6e_E R unicode_utf8_AppendRune_7b6c) (strings_Builder_WriteRune_dc6e_T R) false Tryz.f53 (codeOf Tryz.f53) [.ptr 0 0, .int .i32 x1] [.bld (.sl (.int .u8) x2 (.own 1)), .tok] k =
    strings_Builder_WriteRune_dc6e_X unicode_utf8_AppendRune_7b6c x1 x2 (fun q0 q1 => k (.tuple [.int .i64 q0, .niliface]) [.bld (.sl (.int .u8) q1 (.own 2)), .dead, .tok]) := by kernel_rfl
theorem strings_Builder_WriteRune_dc6e_loops (R : Type) : ∀ a ∈ loopsOf (codeOf Tryz.f53), LoopOk tt (strings_Builder_WriteRune_dc6e_E R unicode_utf8_AppendRune_7b6c) (strings_Builder_WriteRune_dc6e_T R) 2 a := by
  refine loops_ok 0 (by kernel_rfl) fun i hi => ?_
  omega
theorem strings_Builder_WriteRune_dc6e_S_ok (R : Type) (other : Yard.Spec R) (ho : Yard.Spec.Ok Tryz.prog 53 other) : Yard.Spec.Ok Tryz.prog 53 (specBy strings_Builder_WriteRune_dc6e_p strings_Builder_WriteRune_dc6e_q (strings_Builder_WriteRune_dc6e_rr strings_Builder_WriteRune_dc6e) other) :=
  specBy_ok ho (funK_sound TT mixed (strings_Builder_WriteRune_dc6e_EOk R) (keep := false) rfl rfl rfl rfl 2 (strings_Builder_WriteRune_dc6e_loops R)) fun (x : Pat.dens strings_Builder_WriteRune_dc6e_p) (y : HPat.dens strings_Builder_WriteRune_dc6e_q) k => strings_Builder_WriteRune_dc6e_ok unicode_utf8_AppendRune_7b6c x.2.1 y.1 k

/-! ### (*humpyard/quote.reader).plain -/
abbrev quote_reader_plain_abbd_ty (R : Type) : Type := Str → (Int → Str → Option R) → Option R
abbrev quote_reader_plain_abbd_p : List Pat := [.leaf (.ptr 0 0)]
abbrev quote_reader_plain_abbd_q : List HPat := [.cells [.str]]
noncomputable def quote_reader_plain_abbd_rr {R : Type} (fn : quote_reader_plain_abbd_ty R) : Pat.dens quote_reader_plain_abbd_p → HPat.dens quote_reader_plain_abbd_q → (V → Heap → Option R) → Option R := fun x y k => fn y.1.1 (fun q0 q1 => k (.int .i32 q0) [.cells [.str q1]])
noncomputable def quote_reader_plain_abbd_E (R : Type) : Env R := fun i => match i with
  | 130 => some (true, (dec_S R))
  | _ => none
theorem quote_reader_plain_abbd_EOk (R : Type) : EOk Tryz.prog (quote_reader_plain_abbd_E R) := by
  intro i b sp h
  unfold quote_reader_plain_abbd_E at h
  split at h
  · cases h; exact ⟨(dec_ok), fun h => nomatch h⟩
  · cases h

noncomputable def quote_reader_plain_abbd_T (R : Type) : Nat → Option (Hint × LSpec R) := fun i => match i with
  | _ => none

noncomputable def quote_reader_plain_abbd_X {R : Type} (x1 : Str) (k0 : Int → Str → Option R) : Option R :=
  let j3 := chk (decide ((0 : Int) ≤ (x1.length : Int)) && decide ((x1.length : Int) ≤ x1.length)) (chk (decide ((0 : Int) ≤ ((decRune x1).2 : Int)) && decide (((decRune x1).2 : Int) ≤ (x1.length : Int))) (k0 ((decRune x1).1 : Int) ((x1.drop ((decRune x1).2 : Int).toNat).take ((x1.length : Int).toNat - ((decRune x1).2 : Int).toNat)))); bif (((decRune x1).1 : Int) == 65533) then (bif (decide (((decRune x1).2 : Int) < (2 : Int))) then (k0 (-1) x1) else (bif (decide (((decRune x1).1 : Int) < (32 : Int))) then (k0 (-1) x1) else (j3))) else (bif (decide (((decRune x1).1 : Int) < (32 : Int))) then (k0 (-1) x1) else (j3))
noncomputable def quote_reader_plain_abbd {R : Type} : quote_reader_plain_abbd_ty R := fun x1 k0 => quote_reader_plain_abbd_X x1 k0
theorem quote_reader_plain_abbd_ok {R : Type} (x1 : Str) (k : V → Heap → Option R) : funK tt (quote_reader_plain_abbd_E R) (quote_reader_plain_abbd_T R) false Tryz.f108 (codeOf Tryz.f108) [.ptr 0 0] [.cells [.str x1]] k =
    quote_reader_plain_abbd_X x1 (fun q0 q1 => k (.int .i32 q0) [.cells [.str q1]]) := by kernel_rfl
theorem quote_reader_plain_abbd_loops (R : Type) : ∀ a ∈ loopsOf (codeOf Tryz.f108), LoopOk tt (quote_reader_plain_abbd_E R) (quote_reader_plain_abbd_T R) 1 a := by
  refine loops_ok 0 (by kernel_rfl) fun i hi => ?_
  omega
theorem quote_reader_plain_abbd_S_ok (R : Type) (other : Yard.Spec R) (ho : Yard.Spec.Ok Tryz.prog 108 other) : Yard.Spec.Ok Tryz.prog 108 (specBy quote_reader_plain_abbd_p quote_reader_plain_abbd_q (quote_reader_plain_abbd_rr quote_reader_plain_abbd) other) :=
  specBy_ok ho (funK_sound TT mixed (quote_reader_plain_abbd_EOk R) (keep := false) rfl rfl rfl rfl 1 (quote_reader_plain_abbd_loops R)) fun (x : Pat.dens quote_reader_plain_abbd_p) (y : HPat.dens quote_reader_plain_abbd_q) k => quote_reader_plain_abbd_ok y.1.1 k

/-! ### humpyard/quote.Unquote -/
abbrev quote_Unquote_ty (R : Type) : Type := Str → (Str → Int → Bool → Option R) → Option R
abbrev quote_Unquote_p : List Pat := [.leaf (.str)]
abbrev quote_Unquote_q : List HPat := []
noncomputable def quote_Unquote_rr {R : Type} (fn : quote_Unquote_ty R) : Pat.dens quote_Unquote_p → HPat.dens quote_Unquote_q → (V → Heap → Option R) → Option R := fun x y k => fn x.1 (fun q0 q1 q2 => k (.tuple [.str q0, .int .i64 q1, .bool q2]) [])
abbrev quote_Unquote_5_0_ty (R : Type) : Type := Nat → Str → Str → (List Int) → (Str → Str → (List Int) → Option R) → (Str → Str → Int → Bool → Str → (List Int) → Option R) → Option R
noncomputable def quote_Unquote_E (R : Type) (strings_Builder_WriteRune_dc6e : strings_Builder_WriteRune_dc6e_ty R) (quote_reader_skip_e74a : quote_reader_skip_e74a_ty R) (quote_reader_plain_abbd : quote_reader_plain_abbd_ty R) (quote_reader_escaped_abbd : quote_reader_escaped_abbd_ty R) : Env R := fun i => match i with
  | 53 => some (false, (specBy strings_Builder_WriteRune_dc6e_p strings_Builder_WriteRune_dc6e_q (strings_Builder_WriteRune_dc6e_rr strings_Builder_WriteRune_dc6e) specNo))
  | 39 => some (false, (bstr_S R))
  | 107 => some (false, (specBy quote_reader_skip_e74a_p quote_reader_skip_e74a_q (quote_reader_skip_e74a_rr quote_reader_skip_e74a) specNo))
  | 108 => some (false, (specBy quote_reader_plain_abbd_p quote_reader_plain_abbd_q (quote_reader_plain_abbd_rr quote_reader_plain_abbd) specNo))
  | 109 => some (false, (specBy quote_reader_escaped_abbd_p quote_reader_escaped_abbd_q (quote_reader_escaped_abbd_rr quote_reader_escaped_abbd) specNo))
  | _ => none
theorem quote_Unquote_EOk (R : Type) : EOk Tryz.prog (quote_Unquote_E R strings_Builder_WriteRune_dc6e quote_reader_skip_e74a quote_reader_plain_abbd quote_reader_escaped_abbd) := by
  intro i b sp h
  unfold quote_Unquote_E at h
  split at h
  · cases h; exact ⟨(strings_Builder_WriteRune_dc6e_S_ok R _ (specNo_ok _)), fun _ h => nomatch h⟩
  · cases h; exact ⟨(bstr_is), fun _ _ => bstr_soft⟩
  · cases h; exact ⟨(quote_reader_skip_e74a_S_ok R _ (specNo_ok _)), fun _ h => nomatch h⟩
  · cases h; exact ⟨(quote_reader_plain_abbd_S_ok R _ (specNo_ok _)), fun _ h => nomatch h⟩
  · cases h; exact ⟨(quote_reader_escaped_abbd_S_ok R _ (specNo_ok _)), fun _ h => nomatch h⟩
  · cases h

noncomputable def quote_Unquote_5_0_B {R : Type} (strings_Builder_WriteRune_dc6e : strings_Builder_WriteRune_dc6e_ty R) (quote_reader_skip_e74a : quote_reader_skip_e74a_ty R) (quote_reader_plain_abbd : quote_reader_plain_abbd_ty R) (quote_reader_escaped_abbd : quote_reader_escaped_abbd_ty R) (rec' : Str → Str → (List Int) → Option R) (x4 : Str) (x5 : Str) (x6 : List Int) (e0 : Str → Str → (List Int) → Option R) (e1 : Str → Str → Int → Bool → Str → (List Int) → Option R) : Option R :=
  quote_reader_skip_e74a ([34] : Str) x5 (fun y7 y8 => bif (!y7) then (quote_reader_skip_e74a ([92] : Str) y8 (fun y9 y10 => bif y9 then (quote_reader_escaped_abbd y10 (fun y11 y12 => bif (decide (y11 < (0 : Int))) then (e1 x4 ([] : Str) 0 false y12 x6) else (strings_Builder_WriteRune_dc6e y11 x6 (fun y13 y14 => rec' x4 y12 y14)))) else (quote_reader_plain_abbd y10 (fun y15 y16 => bif (decide (y15 < (0 : Int))) then (e1 x4 ([] : Str) 0 false y16 x6) else (strings_Builder_WriteRune_dc6e y15 x6 (fun y17 y18 => rec' x4 y16 y18)))))) else (e0 x4 y8 x6))
noncomputable def quote_Unquote_5_0_L {R : Type} : quote_Unquote_5_0_ty R
  | 0, _, _, _, _, _ => none
  | n + 1, x0', x1', x2', e0, e1 => quote_Unquote_5_0_B strings_Builder_WriteRune_dc6e quote_reader_skip_e74a quote_reader_plain_abbd quote_reader_escaped_abbd (fun x0' x1' x2' => quote_Unquote_5_0_L n x0' x1' x2' e0 e1) x0' x1' x2' e0 e1
noncomputable def quote_Unquote_5_0_h : Hint := { live := [0, 5, 6], own := [], rows := [], cells := [(1, 1, (.int .u8), false)], drop := [], out := [0, 2, 3, 4, 5, 6] }
abbrev quote_Unquote_5_0_D : Type := Str × Str × (List Int)
noncomputable def quote_Unquote_5_0_enc : quote_Unquote_5_0_D → St := fun d => ⟨[.str d.1, .undef, .undef, .undef, .undef, .ptr 0 0, .ptr 1 0, .undef, .undef, .undef, .undef, .undef, .undef, .undef, .undef, .undef, .undef, .undef, .undef, .undef, .undef, .undef, .undef, .undef, .undef, .undef, .undef, .undef, .undef, .undef, .undef, .undef, .undef, .undef, .undef, .undef, .undef, .undef, .undef], [.cells [.str d.2.1], .bld (.sl (.int .u8) d.2.2 (.own 2)), .tok]⟩
noncomputable def quote_Unquote_5_0_x0 {R : Type} (K : Ex → St → Option R) (q0 : Str) (q1 : Str) (q2 : List Int) : Option R := K (.exit 0) ⟨[.str q0, .undef, .undef, .undef, .undef, .ptr 0 0, .ptr 1 0, .undef, .undef, .undef, .undef, .undef, .undef, .undef, .undef, .undef, .undef, .undef, .undef, .undef, .undef, .undef, .undef, .undef, .undef, .undef, .undef, .undef, .undef, .undef, .undef, .undef, .undef, .undef, .undef, .undef, .undef, .undef, .undef], [.cells [.str q1], .bld (.sl (.int .u8) q2 (.own 2)), .tok]⟩
noncomputable def quote_Unquote_5_0_x1 {R : Type} (K : Ex → St → Option R) (q0 : Str) (q1 : Str) (q2 : Int) (q3 : Bool) (q4 : Str) (q5 : List Int) : Option R := K (.ret) ⟨[.str q0, .undef, .str q1, .int .i64 q2, .bool q3, .ptr 0 0, .ptr 1 0, .undef, .undef, .undef, .undef, .undef, .undef, .undef, .undef, .undef, .undef, .undef, .undef, .undef, .undef, .undef, .undef, .undef, .undef, .undef, .undef, .undef, .undef, .undef, .undef, .undef, .undef, .undef, .undef, .undef, .undef, .undef, .undef], [.cells [.str q4], .bld (.sl (.int .u8) q5 (.own 2)), .tok]⟩
noncomputable def quote_Unquote_5_0_s {R : Type} (strings_Builder_WriteRune_dc6e : strings_Builder_WriteRune_dc6e_ty R) (quote_reader_skip_e74a : quote_reader_skip_e74a_ty R) (quote_reader_plain_abbd : quote_reader_plain_abbd_ty R) (quote_reader_escaped_abbd : quote_reader_escaped_abbd_ty R) (K : Ex → St → Option R) (rc : quote_Unquote_5_0_D → Option R) (d : quote_Unquote_5_0_D) : Option R := quote_Unquote_5_0_B strings_Builder_WriteRune_dc6e quote_reader_skip_e74a quote_reader_plain_abbd quote_reader_escaped_abbd (fun z0 z1 z2 => rc (z0, z1, z2)) d.1 d.2.1 d.2.2 (quote_Unquote_5_0_x0 K) (quote_Unquote_5_0_x1 K)
noncomputable def quote_Unquote_5_0_A {R : Type} (K : Ex → St → Option R) (n : Nat) (d : quote_Unquote_5_0_D) : Option R := quote_Unquote_5_0_L n d.1 d.2.1 d.2.2 (quote_Unquote_5_0_x0 K) (quote_Unquote_5_0_x1 K)
abbrev quote_Unquote_5_0_p : List Pat := [.leaf (.str), .leaf (.undef), .leaf (.undef), .leaf (.undef), .leaf (.undef), .leaf (.ptr 0 0), .leaf (.ptr 1 0), .leaf (.undef), .leaf (.undef), .leaf (.undef), .leaf (.undef), .leaf (.undef), .leaf (.undef), .leaf (.undef), .leaf (.undef), .leaf (.undef), .leaf (.undef), .leaf (.undef), .leaf (.undef), .leaf (.undef), .leaf (.undef), .leaf (.undef), .leaf (.undef), .leaf (.undef), .leaf (.undef), .leaf (.undef), .leaf (.undef), .leaf (.undef), .leaf (.undef), .leaf (.undef), .leaf (.undef), .leaf (.undef), .leaf (.undef), .leaf (.undef), .leaf (.undef), .leaf (.undef), .leaf (.undef), .leaf (.undef), .leaf (.undef)]
abbrev quote_Unquote_5_0_q : List HPat := [.cells [.str], .bld (.slo (.int .u8) 2), .tok]
noncomputable def quote_Unquote_5_0_f (x : Pat.dens quote_Unquote_5_0_p) (y : HPat.dens quote_Unquote_5_0_q) : Nat := (List.length x.1 + List.length y.1.1 + List.length y.2.1 + 64)
noncomputable def quote_Unquote_5_0_d (x : Pat.dens quote_Unquote_5_0_p) (y : HPat.dens quote_Unquote_5_0_q) : quote_Unquote_5_0_D := (x.1, y.1.1, y.2.1)
noncomputable def quote_Unquote_5_0_rr {R : Type} (L : quote_Unquote_5_0_ty R) : Pat.dens quote_Unquote_5_0_p → HPat.dens quote_Unquote_5_0_q → (Ex → St → Option R) → Option R := fun x y K => L (quote_Unquote_5_0_f x y) x.1 y.1.1 y.2.1 (quote_Unquote_5_0_x0 K) (quote_Unquote_5_0_x1 K)
noncomputable def quote_Unquote_T (R : Type) (quote_Unquote_5_0_L : quote_Unquote_5_0_ty R) : Nat → Option (Hint × LSpec R) := fun i => match i with
  | 5 => some (quote_Unquote_5_0_h, (loopBy quote_Unquote_5_0_p quote_Unquote_5_0_q (quote_Unquote_5_0_rr quote_Unquote_5_0_L) loopNo))
  | _ => none

theorem quote_Unquote_5_0_B_ok {R : Type} (strings_Builder_WriteRune_dc6e : strings_Builder_WriteRune_dc6e_ty R) (quote_reader_skip_e74a : quote_reader_skip_e74a_ty R) (quote_reader_plain_abbd : quote_reader_plain_abbd_ty R) (quote_reader_escaped_abbd : quote_reader_escaped_abbd_ty R) (quote_Unquote_5_0_L : quote_Unquote_5_0_ty R) (K : Ex → St → Option R) (rc : St → Option R) (d : quote_Unquote_5_0_D) : roundOf tt (quote_Unquote_E R strings_Builder_WriteRune_dc6e quote_reader_skip_e74a quote_reader_plain_abbd quote_reader_escaped_abbd) (quote_Unquote_T R quote_Unquote_5_0_L) 0 ((loopsOf (codeOf Tryz.f70)).getD 0 .skip) quote_Unquote_5_0_h (quote_Unquote_5_0_enc d) rc K = quote_Unquote_5_0_s strings_Builder_WriteRune_dc6e quote_reader_skip_e74a quote_reader_plain_abbd quote_reader_escaped_abbd K (fun d => rc (quote_Unquote_5_0_enc d)) d := by kernel_rfl
theorem quote_Unquote_5_0_A_succ {R : Type} (K : Ex → St → Option R) (n : Nat) (d : quote_Unquote_5_0_D) : quote_Unquote_5_0_A K (n + 1) d = quote_Unquote_5_0_s strings_Builder_WriteRune_dc6e quote_reader_skip_e74a quote_reader_plain_abbd quote_reader_escaped_abbd K (quote_Unquote_5_0_A K n) d := by kernel_rfl
theorem quote_Unquote_5_0_A_zero {R : Type} (K : Ex → St → Option R) (d : quote_Unquote_5_0_D) : quote_Unquote_5_0_A K 0 d = none := by kernel_rfl
theorem quote_Unquote_5_0_e_ok (x : Pat.dens quote_Unquote_5_0_p) (y : HPat.dens quote_Unquote_5_0_q) : (⟨Pat.encL quote_Unquote_5_0_p x, HPat.encL quote_Unquote_5_0_q y⟩ : St) = quote_Unquote_5_0_enc (quote_Unquote_5_0_d x y) := by kernel_rfl
theorem quote_Unquote_5_0_r_ok {R : Type} (x : Pat.dens quote_Unquote_5_0_p) (y : HPat.dens quote_Unquote_5_0_q) (K : Ex → St → Option R) : quote_Unquote_5_0_rr (quote_Unquote_5_0_L) x y K = quote_Unquote_5_0_A K (quote_Unquote_5_0_f x y) (quote_Unquote_5_0_d x y) := by kernel_rfl
theorem quote_Unquote_5_0_ok {R : Type} (other : LSpec R) (ho : LsOk tt (quote_Unquote_E R strings_Builder_WriteRune_dc6e quote_reader_skip_e74a quote_reader_plain_abbd quote_reader_escaped_abbd) (quote_Unquote_T R quote_Unquote_5_0_L) 0 ((loopsOf (codeOf Tryz.f70)).getD 0 .skip) quote_Unquote_5_0_h other) : LsOk tt (quote_Unquote_E R strings_Builder_WriteRune_dc6e quote_reader_skip_e74a quote_reader_plain_abbd quote_reader_escaped_abbd) (quote_Unquote_T R quote_Unquote_5_0_L) 0 ((loopsOf (codeOf Tryz.f70)).getD 0 .skip) quote_Unquote_5_0_h (loopBy quote_Unquote_5_0_p quote_Unquote_5_0_q (quote_Unquote_5_0_rr (quote_Unquote_5_0_L)) other) :=
  loopBy_tie (A := quote_Unquote_5_0_A) ho (loop_tie quote_Unquote_5_0_enc (quote_Unquote_5_0_s strings_Builder_WriteRune_dc6e quote_reader_skip_e74a quote_reader_plain_abbd quote_reader_escaped_abbd) (quote_Unquote_5_0_A) (quote_Unquote_5_0_A_zero) (quote_Unquote_5_0_B_ok strings_Builder_WriteRune_dc6e quote_reader_skip_e74a quote_reader_plain_abbd quote_reader_escaped_abbd quote_Unquote_5_0_L) (quote_Unquote_5_0_A_succ)) quote_Unquote_5_0_f quote_Unquote_5_0_d quote_Unquote_5_0_e_ok (quote_Unquote_5_0_r_ok)

noncomputable def quote_Unquote_X {R : Type} (quote_reader_skip_e74a : quote_reader_skip_e74a_ty R) (quote_Unquote_5_0_L : quote_Unquote_5_0_ty R) (x1 : Str) (k0 : Str → Int → Bool → Option R) : Option R :=
  quote_reader_skip_e74a ([34] : Str) x1 (fun y2 y3 => bif (!y2) then (k0 ([] : Str) 0 false) else (quote_Unquote_5_0_L (List.length x1 + List.length y3 + List.length ([] : List Int) + 64) x1 y3 ([] : List Int) (fun y19 y20 y21 => k0 (bstr y21) (IntKind.i64.wrap ((y19.length : Int) - (y20.length : Int))) true) (fun y22 y23 y24 y25 y26 y27 => k0 y23 y24 y25)))
noncomputable def quote_Unquote {R : Type} : quote_Unquote_ty R := fun x1 k0 => quote_Unquote_X quote_reader_skip_e74a quote_Unquote_5_0_L x1 k0
theorem quote_Unquote_ok {R : Type} (strings_Builder_WriteRune_dc6e : strings_Builder_WriteRune_dc6e_ty R) (quote_reader_skip_e74a : quote_reader_skip_e74a_ty R) (quote_reader_plain_abbd : quote_reader_plain_abbd_ty R) (quote_reader_escaped_abbd : quote_reader_escaped_abbd_ty R) (quote_Unquote_5_0_L : quote_Unquote_5_0_ty R) (x1 : Str) (k : V → Heap → Option R) : funK tt (quote_Unquote_E R strings_Builder_WriteRune_dc6e quote_reader_skip_e74a quote_reader_plain_abbd quote_reader_escaped_abbd) (quote_Unquote_T R quote_Unquote_5_0_L) false Tryz.f70 (codeOf Tryz.f70) [.str x1] [] k =
    quote_Unquote_X quote_reader_skip_e74a quote_Unquote_5_0_L x1 (fun q0 q1 q2 => k (.tuple [.str q0, .int .i64 q1, .bool q2]) []) := by kernel_rfl
theorem quote_Unquote_loops (R : Type) : ∀ a ∈ loopsOf (codeOf Tryz.f70), LoopOk tt (quote_Unquote_E R strings_Builder_WriteRune_dc6e quote_reader_skip_e74a quote_reader_plain_abbd quote_reader_escaped_abbd) (quote_Unquote_T R quote_Unquote_5_0_L) 0 a := by
  refine loops_ok 1 (by kernel_rfl) fun i hi => ?_
  match i, hi with
  | 0, _ => exact loopOk_some (by kernel_rfl) (quote_Unquote_5_0_ok _ loopNo_ok)
  | n + 1, hi => omega
theorem quote_Unquote_S_ok (R : Type) (other : Yard.Spec R) (ho : Yard.Spec.Ok Tryz.prog 70 other) : Yard.Spec.Ok Tryz.prog 70 (specBy quote_Unquote_p quote_Unquote_q (quote_Unquote_rr quote_Unquote) other) :=
  specBy_ok ho (funK_sound TT mixed (quote_Unquote_EOk R) (keep := false) rfl rfl rfl rfl 0 (quote_Unquote_loops R)) fun (x : Pat.dens quote_Unquote_p) (y : HPat.dens quote_Unquote_q) k => quote_Unquote_ok strings_Builder_WriteRune_dc6e quote_reader_skip_e74a quote_reader_plain_abbd quote_reader_escaped_abbd quote_Unquote_5_0_L x.1 k

/-! ### humpyard/lexer.next -/
abbrev lexer_next_ty (R : Type) : Type := Str → (Token → Int → Option R) → Option R
abbrev lexer_next_p : List Pat := [.leaf (.str)]
abbrev lexer_next_q : List HPat := []
noncomputable def lexer_next_rr {R : Type} (fn : lexer_next_ty R) : Pat.dens lexer_next_p → HPat.dens lexer_next_q → (V → Heap → Option R) → Option R := fun x y k => fn x.1 (fun q0 q1 => k (.tuple [.agg [.int .i64 q0.kind, .str q0.text, .int .i64 q0.num.mant, .int .i64 q0.num.exp, .int .i64 q0.at_], .int .i64 q1]) [])
noncomputable def lexer_next_E (R : Type) (quote_Unquote : quote_Unquote_ty R) (decimal_Parse : decimal_Parse_ty R) (lexer_while : lexer_while_ty R) : Env R := fun i => match i with
  | 70 => some (true, (specBy quote_Unquote_p quote_Unquote_q (quote_Unquote_rr quote_Unquote) specNo))
  | 69 => some (true, (specBy decimal_Parse_p decimal_Parse_q (decimal_Parse_rr decimal_Parse) specNo))
  | 71 => some (true, (idx_S R))
  | 47 => some (true, (specBy lexer_while_p lexer_while_q (lexer_while_rr lexer_while) specNo))
  | _ => none
theorem lexer_next_EOk (R : Type) : EOk Tryz.prog (lexer_next_E R quote_Unquote decimal_Parse lexer_while) := by
  intro i b sp h
  unfold lexer_next_E at h
  split at h
  · cases h; exact ⟨(quote_Unquote_S_ok R _ (specNo_ok _)), fun h => nomatch h⟩
  · cases h; exact ⟨(decimal_Parse_S_ok R _ (specNo_ok _)), fun h => nomatch h⟩
  · cases h; exact ⟨(idx_ok), fun h => nomatch h⟩
  · cases h; exact ⟨(lexer_while_S_ok R _ (specNo_ok _)), fun h => nomatch h⟩
  · cases h

noncomputable def lexer_next_T (R : Type) : Nat → Option (Hint × LSpec R) := fun i => match i with
  | _ => none

noncomputable def lexer_next_X {R : Type} (quote_Unquote : quote_Unquote_ty R) (decimal_Parse : decimal_Parse_ty R) (lexer_while : lexer_while_ty R) (x1 : Str) (k0 : Token → Int → Option R) : Option R :=
  chk (decide ((0 : Int) < x1.length)) (let j23 := lexer_while x1 ([97, 98, 99, 100, 101, 102, 103, 104, 105, 106, 107, 108, 109, 110, 111, 112, 113, 114, 115, 116, 117, 118, 119, 120, 121, 122] : Str) (fun y21 => bif (y21 == ([116, 114, 117, 101] : Str)) then (k0 (⟨4, y21, ⟨0, 0⟩, 0⟩ : Token) (y21.length : Int)) else (bif (y21 == ([102, 97, 108, 115, 101] : Str)) then (k0 (⟨4, y21, ⟨0, 0⟩, 0⟩ : Token) (y21.length : Int)) else (bif (!(y21 == ([110, 117, 108, 108] : Str))) then (k0 (⟨0, ([] : Str), ⟨0, 0⟩, 0⟩ : Token) 0) else (k0 (⟨4, y21, ⟨0, 0⟩, 0⟩ : Token) (y21.length : Int))))); bif (((x1.getD 0 0).toNat : Int) == 45) then (lexer_while x1 ([48, 49, 50, 51, 52, 53, 54, 55, 56, 57, 43, 45, 46, 101, 69] : Str) (fun y6 => decimal_Parse y6 (fun y7 y8 => bif (!y8) then (k0 (⟨0, ([] : Str), ⟨0, 0⟩, 0⟩ : Token) 0) else (k0 (⟨3, y6, ⟨y7.mant, y7.exp⟩, 0⟩ : Token) (y6.length : Int))))) else (bif (decide (((x1.getD 0 0).toNat : Int) ≥ (48 : Int))) then (bif (decide (((x1.getD 0 0).toNat : Int) ≤ (57 : Int))) then (lexer_while x1 ([48, 49, 50, 51, 52, 53, 54, 55, 56, 57, 43, 45, 46, 101, 69] : Str) (fun y9 => decimal_Parse y9 (fun y10 y11 => bif (!y11) then (k0 (⟨0, ([] : Str), ⟨0, 0⟩, 0⟩ : Token) 0) else (k0 (⟨3, y9, ⟨y10.mant, y10.exp⟩, 0⟩ : Token) (y9.length : Int))))) else (bif (((x1.getD 0 0).toNat : Int) == 34) then (quote_Unquote x1 (fun y15 y16 y17 => bif (!y17) then (k0 (⟨0, ([] : Str), ⟨0, 0⟩, 0⟩ : Token) 0) else (k0 (⟨2, y15, ⟨0, 0⟩, 0⟩ : Token) y16))) else (bif (decide ((idxByte ([123, 125, 91, 93, 44, 58] : Str) ((x1.getD 0 0).toNat : Int)) ≥ (0 : Int))) then (chk (decide ((1 : Int) ≤ x1.length)) (k0 (⟨1, ((x1.drop 0).take (1 - 0)), ⟨0, 0⟩, 0⟩ : Token) 1)) else (j23)))) else (bif (((x1.getD 0 0).toNat : Int) == 34) then (quote_Unquote x1 (fun y18 y19 y20 => bif (!y20) then (k0 (⟨0, ([] : Str), ⟨0, 0⟩, 0⟩ : Token) 0) else (k0 (⟨2, y18, ⟨0, 0⟩, 0⟩ : Token) y19))) else (bif (decide ((idxByte ([123, 125, 91, 93, 44, 58] : Str) ((x1.getD 0 0).toNat : Int)) ≥ (0 : Int))) then (chk (decide ((1 : Int) ≤ x1.length)) (k0 (⟨1, ((x1.drop 0).take (1 - 0)), ⟨0, 0⟩, 0⟩ : Token) 1)) else (j23)))))
noncomputable def lexer_next {R : Type} : lexer_next_ty R := fun x1 k0 => lexer_next_X quote_Unquote decimal_Parse lexer_while x1 k0
theorem lexer_next_ok {R : Type} (quote_Unquote : quote_Unquote_ty R) (decimal_Parse : decimal_Parse_ty R) (lexer_while : lexer_while_ty R) (x1 : Str) (k : V → Heap → Option R) : funK tt (lexer_next_E R quote_Unquote decimal_Parse lexer_while) (lexer_next_T R) false Tryz.f48 (codeOf Tryz.f48) [.str x1] [] k =
    lexer_next_X quote_Unquote decimal_Parse lexer_while x1 (fun q0 q1 => k (.tuple [.agg [.int .i64 q0.kind, .str q0.text, .int .i64 q0.num.mant, .int .i64 q0.num.exp, .int .i64 q0.at_], .int .i64 q1]) []) := by kernel_rfl
theorem lexer_next_loops (R : Type) : ∀ a ∈ loopsOf (codeOf Tryz.f48), LoopOk tt (lexer_next_E R quote_Unquote decimal_Parse lexer_while) (lexer_next_T R) 0 a := by
  refine loops_ok 0 (by kernel_rfl) fun i hi => ?_
  omega
theorem lexer_next_S_ok (R : Type) (other : Yard.Spec R) (ho : Yard.Spec.Ok Tryz.prog 48 other) : Yard.Spec.Ok Tryz.prog 48 (specBy lexer_next_p lexer_next_q (lexer_next_rr lexer_next) other) :=
  specBy_ok ho (funK_sound TT mixed (lexer_next_EOk R) (keep := false) rfl rfl rfl rfl 0 (lexer_next_loops R)) fun (x : Pat.dens lexer_next_p) (y : HPat.dens lexer_next_q) k => lexer_next_ok quote_Unquote decimal_Parse lexer_while x.1 k

/-! ### humpyard/lexer.Scan -/
abbrev lexer_Scan_ty (R : Type) : Type := Str → ((List Token) → Int → Int → Option R) → Option R
abbrev lexer_Scan_p : List Pat := [.leaf (.str)]
abbrev lexer_Scan_q : List HPat := []
noncomputable def lexer_Scan_rr {R : Type} (fn : lexer_Scan_ty R) : Pat.dens lexer_Scan_p → HPat.dens lexer_Scan_q → (V → Heap → Option R) → Option R := fun x y k => fn x.1 (fun q0 q1 q2 => k (.tuple [.sl .token q0 .no, .int .i64 q1, .int .i64 q2]) [])
abbrev lexer_Scan_3_0_ty (R : Type) : Type := Nat → Str → (List Token) → Int → ((List Token) → Int → Int → Option R) → (Int → Int → Option R) → Option R
noncomputable def lexer_Scan_E (R : Type) (lexer_next : lexer_next_ty R) (lexer_while : lexer_while_ty R) : Env R := fun i => match i with
  | 48 => some (true, (specBy lexer_next_p lexer_next_q (lexer_next_rr lexer_next) specNo))
  | 47 => some (true, (specBy lexer_while_p lexer_while_q (lexer_while_rr lexer_while) specNo))
  | _ => none
theorem lexer_Scan_EOk (R : Type) : EOk Tryz.prog (lexer_Scan_E R lexer_next lexer_while) := by
  intro i b sp h
  unfold lexer_Scan_E at h
  split at h
  · cases h; exact ⟨(lexer_next_S_ok R _ (specNo_ok _)), fun h => nomatch h⟩
  · cases h; exact ⟨(lexer_while_S_ok R _ (specNo_ok _)), fun h => nomatch h⟩
  · cases h

noncomputable def lexer_Scan_3_0_B {R : Type} (lexer_next : lexer_next_ty R) (lexer_while : lexer_while_ty R) (rec' : Str → (List Token) → Int → Option R) (x2 : Str) (x3 : List Token) (x4 : Int) (e0 : (List Token) → Int → Int → Option R) (e1 : Int → Int → Option R) : Option R :=
  chk (decide ((0 : Int) ≤ (x2.length : Int)) && decide ((x2.length : Int) ≤ x2.length)) (chk (decide ((0 : Int) ≤ x4) && decide (x4 ≤ (x2.length : Int))) (lexer_while ((x2.drop x4.toNat).take ((x2.length : Int).toNat - x4.toNat)) ([32, 9, 10, 13] : Str) (fun y5 => bif ((IntKind.i64.wrap (x4 + (y5.length : Int))) == (x2.length : Int)) then (chk (decide ((x3.length + 1) * 48 ≤ 140737488355328)) (e0 (x3 ++ ([(⟨5, ([] : Str), ⟨0, 0⟩, (IntKind.i64.wrap (x4 + (y5.length : Int)))⟩ : Token)] : List Token)) 0 0)) else (chk (decide ((0 : Int) ≤ (x2.length : Int)) && decide ((x2.length : Int) ≤ x2.length)) (chk (decide ((0 : Int) ≤ (IntKind.i64.wrap (x4 + (y5.length : Int)))) && decide ((IntKind.i64.wrap (x4 + (y5.length : Int))) ≤ (x2.length : Int))) (lexer_next ((x2.drop (IntKind.i64.wrap (x4 + (y5.length : Int))).toNat).take ((x2.length : Int).toNat - (IntKind.i64.wrap (x4 + (y5.length : Int))).toNat)) (fun y6 y7 => bif (y7 == 0) then (e1 30 (IntKind.i64.wrap (x4 + (y5.length : Int)))) else (chk (decide ((x3.length + 1) * 48 ≤ 140737488355328)) (rec' x2 (x3 ++ ([(⟨y6.kind, y6.text, ⟨y6.num.mant, y6.num.exp⟩, (IntKind.i64.wrap (x4 + (y5.length : Int)))⟩ : Token)] : List Token)) (IntKind.i64.wrap ((IntKind.i64.wrap (x4 + (y5.length : Int))) + y7)))))))))))
noncomputable def lexer_Scan_3_0_L {R : Type} : lexer_Scan_3_0_ty R
  | 0, _, _, _, _, _ => none
  | n + 1, x0', x1', x2', e0, e1 => lexer_Scan_3_0_B lexer_next lexer_while (fun x0' x1' x2' => lexer_Scan_3_0_L n x0' x1' x2' e0 e1) x0' x1' x2' e0 e1
noncomputable def lexer_Scan_3_0_h : Hint := { live := [0, 2, 4], own := [(2, .token)], rows := [], cells := [], drop := [], out := [2, 3, 4] }
abbrev lexer_Scan_3_0_D : Type := Str × (List Token) × Int
noncomputable def lexer_Scan_3_0_enc : lexer_Scan_3_0_D → St := fun d => ⟨[.str d.1, .undef, .sl .token d.2.1 (.own 0), .undef, .int .i64 d.2.2, .undef, .undef, .undef, .undef, .undef, .undef, .undef, .undef, .undef, .undef, .undef, .undef, .undef, .undef, .undef, .undef, .undef, .undef, .undef, .undef, .undef, .undef, .undef, .undef, .undef, .undef, .undef, .undef, .undef, .undef, .undef, .undef, .undef, .undef, .undef, .undef, .undef, .undef, .undef, .undef], [.tok]⟩
noncomputable def lexer_Scan_3_0_x0 {R : Type} (K : Ex → St → Option R) (q0 : List Token) (q1 : Int) (q2 : Int) : Option R := K (.ret) ⟨[.undef, .undef, .sl .token q0 (.own 0), .int .i64 q1, .int .i64 q2, .undef, .undef, .undef, .undef, .undef, .undef, .undef, .undef, .undef, .undef, .undef, .undef, .undef, .undef, .undef, .undef, .undef, .undef, .undef, .undef, .undef, .undef, .undef, .undef, .undef, .undef, .undef, .undef, .undef, .undef, .undef, .undef, .undef, .undef, .undef, .undef, .undef, .undef, .undef, .undef], [.tok]⟩
noncomputable def lexer_Scan_3_0_x1 {R : Type} (K : Ex → St → Option R) (q0 : Int) (q1 : Int) : Option R := K (.ret) ⟨[.undef, .undef, .nilsl, .int .i64 q0, .int .i64 q1, .undef, .undef, .undef, .undef, .undef, .undef, .undef, .undef, .undef, .undef, .undef, .undef, .undef, .undef, .undef, .undef, .undef, .undef, .undef, .undef, .undef, .undef, .undef, .undef, .undef, .undef, .undef, .undef, .undef, .undef, .undef, .undef, .undef, .undef, .undef, .undef, .undef, .undef, .undef, .undef], []⟩
noncomputable def lexer_Scan_3_0_s {R : Type} (lexer_next : lexer_next_ty R) (lexer_while : lexer_while_ty R) (K : Ex → St → Option R) (rc : lexer_Scan_3_0_D → Option R) (d : lexer_Scan_3_0_D) : Option R := lexer_Scan_3_0_B lexer_next lexer_while (fun z0 z1 z2 => rc (z0, z1, z2)) d.1 d.2.1 d.2.2 (lexer_Scan_3_0_x0 K) (lexer_Scan_3_0_x1 K)
noncomputable def lexer_Scan_3_0_A {R : Type} (K : Ex → St → Option R) (n : Nat) (d : lexer_Scan_3_0_D) : Option R := lexer_Scan_3_0_L n d.1 d.2.1 d.2.2 (lexer_Scan_3_0_x0 K) (lexer_Scan_3_0_x1 K)
abbrev lexer_Scan_3_0_p : List Pat := [.leaf (.str), .leaf (.undef), .leaf (.slo .token 0), .leaf (.undef), .leaf (.int .i64), .leaf (.undef), .leaf (.undef), .leaf (.undef), .leaf (.undef), .leaf (.undef), .leaf (.undef), .leaf (.undef), .leaf (.undef), .leaf (.undef), .leaf (.undef), .leaf (.undef), .leaf (.undef), .leaf (.undef), .leaf (.undef), .leaf (.undef), .leaf (.undef), .leaf (.undef), .leaf (.undef), .leaf (.undef), .leaf (.undef), .leaf (.undef), .leaf (.undef), .leaf (.undef), .leaf (.undef), .leaf (.undef), .leaf (.undef), .leaf (.undef), .leaf (.undef), .leaf (.undef), .leaf (.undef), .leaf (.undef), .leaf (.undef), .leaf (.undef), .leaf (.undef), .leaf (.undef), .leaf (.undef), .leaf (.undef), .leaf (.undef), .leaf (.undef), .leaf (.undef)]
abbrev lexer_Scan_3_0_q : List HPat := [.tok]
noncomputable def lexer_Scan_3_0_f (x : Pat.dens lexer_Scan_3_0_p) (y : HPat.dens lexer_Scan_3_0_q) : Nat := (List.length x.1 + List.length x.2.2.1 + Int.natAbs x.2.2.2.2.1 + 64)
noncomputable def lexer_Scan_3_0_d (x : Pat.dens lexer_Scan_3_0_p) (y : HPat.dens lexer_Scan_3_0_q) : lexer_Scan_3_0_D := (x.1, x.2.2.1, x.2.2.2.2.1)
noncomputable def lexer_Scan_3_0_rr {R : Type} (L : lexer_Scan_3_0_ty R) : Pat.dens lexer_Scan_3_0_p → HPat.dens lexer_Scan_3_0_q → (Ex → St → Option R) → Option R := fun x y K => L (lexer_Scan_3_0_f x y) x.1 x.2.2.1 x.2.2.2.2.1 (lexer_Scan_3_0_x0 K) (lexer_Scan_3_0_x1 K)
noncomputable def lexer_Scan_T (R : Type) (lexer_Scan_3_0_L : lexer_Scan_3_0_ty R) : Nat → Option (Hint × LSpec R) := fun i => match i with
  | 3 => some (lexer_Scan_3_0_h, (loopBy lexer_Scan_3_0_p lexer_Scan_3_0_q (lexer_Scan_3_0_rr lexer_Scan_3_0_L) loopNo))
  | _ => none

theorem lexer_Scan_3_0_B_ok {R : Type} (lexer_next : lexer_next_ty R) (lexer_while : lexer_while_ty R) (lexer_Scan_3_0_L : lexer_Scan_3_0_ty R) (K : Ex → St → Option R) (rc : St → Option R) (d : lexer_Scan_3_0_D) : roundOf tt (lexer_Scan_E R lexer_next lexer_while) (lexer_Scan_T R lexer_Scan_3_0_L) 0 ((loopsOf (codeOf Tryz.f25)).getD 0 .skip) lexer_Scan_3_0_h (lexer_Scan_3_0_enc d) rc K = lexer_Scan_3_0_s lexer_next lexer_while K (fun d => rc (lexer_Scan_3_0_enc d)) d := by kernel_rfl
theorem lexer_Scan_3_0_A_succ {R : Type} (K : Ex → St → Option R) (n : Nat) (d : lexer_Scan_3_0_D) : lexer_Scan_3_0_A K (n + 1) d = lexer_Scan_3_0_s lexer_next lexer_while K (lexer_Scan_3_0_A K n) d := by kernel_rfl
theorem lexer_Scan_3_0_A_zero {R : Type} (K : Ex → St → Option R) (d : lexer_Scan_3_0_D) : lexer_Scan_3_0_A K 0 d = none := by kernel_rfl
theorem lexer_Scan_3_0_e_ok (x : Pat.dens lexer_Scan_3_0_p) (y : HPat.dens lexer_Scan_3_0_q) : (⟨Pat.encL lexer_Scan_3_0_p x, HPat.encL lexer_Scan_3_0_q y⟩ : St) = lexer_Scan_3_0_enc (lexer_Scan_3_0_d x y) := by kernel_rfl
theorem lexer_Scan_3_0_r_ok {R : Type} (x : Pat.dens lexer_Scan_3_0_p) (y : HPat.dens lexer_Scan_3_0_q) (K : Ex → St → Option R) : lexer_Scan_3_0_rr (lexer_Scan_3_0_L) x y K = lexer_Scan_3_0_A K (lexer_Scan_3_0_f x y) (lexer_Scan_3_0_d x y) := by kernel_rfl
theorem lexer_Scan_3_0_ok {R : Type} (other : LSpec R) (ho : LsOk tt (lexer_Scan_E R lexer_next lexer_while) (lexer_Scan_T R lexer_Scan_3_0_L) 0 ((loopsOf (codeOf Tryz.f25)).getD 0 .skip) lexer_Scan_3_0_h other) : LsOk tt (lexer_Scan_E R lexer_next lexer_while) (lexer_Scan_T R lexer_Scan_3_0_L) 0 ((loopsOf (codeOf Tryz.f25)).getD 0 .skip) lexer_Scan_3_0_h (loopBy lexer_Scan_3_0_p lexer_Scan_3_0_q (lexer_Scan_3_0_rr (lexer_Scan_3_0_L)) other) :=
  loopBy_tie (A := lexer_Scan_3_0_A) ho (loop_tie lexer_Scan_3_0_enc (lexer_Scan_3_0_s lexer_next lexer_while) (lexer_Scan_3_0_A) (lexer_Scan_3_0_A_zero) (lexer_Scan_3_0_B_ok lexer_next lexer_while lexer_Scan_3_0_L) (lexer_Scan_3_0_A_succ)) lexer_Scan_3_0_f lexer_Scan_3_0_d lexer_Scan_3_0_e_ok (lexer_Scan_3_0_r_ok)

noncomputable def lexer_Scan_X {R : Type} (lexer_Scan_3_0_L : lexer_Scan_3_0_ty R) (x1 : Str) (k0 : (List Token) → Int → Int → Option R) : Option R :=
  bif (decide ((x1.length : Int) > (20000 : Int))) then (k0 ([] : List Token) 30 0) else (lexer_Scan_3_0_L (List.length x1 + List.length ([] : List Token) + Int.natAbs 0 + 64) x1 ([] : List Token) 0 (fun y8 y9 y10 => k0 y8 y9 y10) (fun y11 y12 => k0 ([] : List Token) y11 y12))
noncomputable def lexer_Scan {R : Type} : lexer_Scan_ty R := fun x1 k0 => lexer_Scan_X lexer_Scan_3_0_L x1 k0
theorem lexer_Scan_ok {R : Type} (lexer_next : lexer_next_ty R) (lexer_while : lexer_while_ty R) (lexer_Scan_3_0_L : lexer_Scan_3_0_ty R) (x1 : Str) (k : V → Heap → Option R) : funK tt (lexer_Scan_E R lexer_next lexer_while) (lexer_Scan_T R lexer_Scan_3_0_L) false Tryz.f25 (codeOf Tryz.f25) [.str x1] [] k =
    lexer_Scan_X lexer_Scan_3_0_L x1 (fun q0 q1 q2 => k (.tuple [.sl .token q0 .no, .int .i64 q1, .int .i64 q2]) []) := by kernel_rfl
theorem lexer_Scan_loops (R : Type) : ∀ a ∈ loopsOf (codeOf Tryz.f25), LoopOk tt (lexer_Scan_E R lexer_next lexer_while) (lexer_Scan_T R lexer_Scan_3_0_L) 0 a := by
  refine loops_ok 1 (by kernel_rfl) fun i hi => ?_
  match i, hi with
  | 0, _ => exact loopOk_some (by kernel_rfl) (lexer_Scan_3_0_ok _ loopNo_ok)
  | n + 1, hi => omega
theorem lexer_Scan_S_ok (R : Type) (other : Yard.Spec R) (ho : Yard.Spec.Ok Tryz.prog 25 other) : Yard.Spec.Ok Tryz.prog 25 (specBy lexer_Scan_p lexer_Scan_q (lexer_Scan_rr lexer_Scan) other) :=
  specBy_ok ho (funK_sound TT mixed (lexer_Scan_EOk R) (keep := false) rfl rfl rfl rfl 0 (lexer_Scan_loops R)) fun (x : Pat.dens lexer_Scan_p) (y : HPat.dens lexer_Scan_q) k => lexer_Scan_ok lexer_next lexer_while lexer_Scan_3_0_L x.1 k

end Go.Proofs.YtmlkkgfenfdndaaGreatDoor

/-
  Functions of the program as pure Lean functions, and the ties; printed by wip/tools/emit.py.
-/
set_option maxRecDepth 100000
set_option linter.unusedVariables false
namespace Go.Proofs.YtmlkkgfenfdndaaGreatDoor
open Go Go.Yard

/-! ### humpyard/quote.Quote -/
abbrev quote_Quote_ty (R : Type) : Type := Str → (Str → Bool → Option R) → Option R
abbrev quote_Quote_p : List Pat := [.leaf (.str)]
abbrev quote_Quote_q : List HPat := []
noncomputable def quote_Quote_rr {R : Type} (fn : quote_Quote_ty R) : Pat.dens quote_Quote_p → HPat.dens quote_Quote_q → (V → Heap → Option R) → Option R := fun x y k => fn x.1 (fun q0 q1 => k (.tuple [.str q0, .bool q1]) [])
abbrev quote_Quote_6_0_ty (R : Type) : Type := Nat → (List Int) → Str → Nat → ((List Int) → Option R) → Option R
noncomputable def quote_Quote_E (R : Type) (quote_Whole : quote_Whole_ty R) (strings_Builder_WriteByte_b66c : strings_Builder_WriteByte_b66c_ty R) (strings_Builder_WriteByte_4b84 : strings_Builder_WriteByte_4b84_ty R) (quote_short : quote_short_ty R) (strings_Builder_WriteString_df1e : strings_Builder_WriteString_df1e_ty R) (strings_Builder_WriteRune_dc6e : strings_Builder_WriteRune_dc6e_ty R) : Env R := fun i => match i with
  | 49 => some (true, (specBy quote_Whole_p quote_Whole_q (quote_Whole_rr quote_Whole) specNo))
  | 50 => some (false, (specBy strings_Builder_WriteByte_4b84_p strings_Builder_WriteByte_4b84_q (strings_Builder_WriteByte_4b84_rr strings_Builder_WriteByte_4b84) (specBy strings_Builder_WriteByte_b66c_p strings_Builder_WriteByte_b66c_q (strings_Builder_WriteByte_b66c_rr strings_Builder_WriteByte_b66c) specNo)))
  | 51 => some (true, (specBy quote_short_p quote_short_q (quote_short_rr quote_short) specNo))
  | 52 => some (false, (specBy strings_Builder_WriteString_df1e_p strings_Builder_WriteString_df1e_q (strings_Builder_WriteString_df1e_rr strings_Builder_WriteString_df1e) specNo))
  | 53 => some (false, (specBy strings_Builder_WriteRune_dc6e_p strings_Builder_WriteRune_dc6e_q (strings_Builder_WriteRune_dc6e_rr strings_Builder_WriteRune_dc6e) specNo))
  | 39 => some (false, (bstr_S R))
  | _ => none
theorem quote_Quote_EOk (R : Type) : EOk Tryz.prog (quote_Quote_E R quote_Whole strings_Builder_WriteByte_b66c strings_Builder_WriteByte_4b84 quote_short strings_Builder_WriteString_df1e strings_Builder_WriteRune_dc6e) := by
  intro i b sp h
  unfold quote_Quote_E at h
  split at h
  · cases h; exact ⟨(quote_Whole_S_ok R _ (specNo_ok _)), fun h => nomatch h⟩
  · cases h; exact ⟨(strings_Builder_WriteByte_4b84_S_ok R _ (strings_Builder_WriteByte_b66c_S_ok R _ (specNo_ok _))), fun _ h => nomatch h⟩
  · cases h; exact ⟨(quote_short_S_ok R _ (specNo_ok _)), fun h => nomatch h⟩
  · cases h; exact ⟨(strings_Builder_WriteString_df1e_S_ok R _ (specNo_ok _)), fun _ h => nomatch h⟩
  · cases h; exact ⟨(strings_Builder_WriteRune_dc6e_S_ok R _ (specNo_ok _)), fun _ h => nomatch h⟩
  · cases h; exact ⟨(bstr_is), fun _ _ => bstr_soft⟩
  · cases h

noncomputable def quote_Quote_6_0_B {R : Type} (strings_Builder_WriteByte_4b84 : strings_Builder_WriteByte_4b84_ty R) (quote_short : quote_short_ty R) (strings_Builder_WriteString_df1e : strings_Builder_WriteString_df1e_ty R) (strings_Builder_WriteRune_dc6e : strings_Builder_WriteRune_dc6e_ty R) (rec' : (List Int) → Str → Nat → Option R) (x4 : List Int) (x5 : Str) (x6 : Nat) (e0 : (List Int) → Option R) : Option R :=
  bif decide (x6 < x5.length) then (quote_short ((runeAt x5 x6).1 : Int) (fun y7 => bif (y7 != 0) then (strings_Builder_WriteByte_4b84 92 x4 (fun y8 => strings_Builder_WriteByte_4b84 y7 y8 (fun y9 => rec' y9 x5 (x6 + (runeAt x5 x6).2)))) else (bif (decide (((runeAt x5 x6).1 : Int) < (32 : Int))) then (strings_Builder_WriteString_df1e ([92, 117, 48, 48] : Str) x4 (fun y10 y11 => chk (decide ((0 : Int) ≤ (Int.fdiv ((runeAt x5 x6).1 : Int) (2 ^ (min 4 IntKind.i32.bits)))) && decide ((Int.fdiv ((runeAt x5 x6).1 : Int) (2 ^ (min 4 IntKind.i32.bits))) < (16 : Int))) (strings_Builder_WriteByte_4b84 ((([48, 49, 50, 51, 52, 53, 54, 55, 56, 57, 97, 98, 99, 100, 101, 102] : Str).getD ((Int.fdiv ((runeAt x5 x6).1 : Int) (2 ^ (min 4 IntKind.i32.bits))).toNat) 0).toNat : Int) y11 (fun y12 => chk (decide ((0 : Int) ≤ (IntKind.i32.wrap ((BitVec.ofInt IntKind.i32.bits ((runeAt x5 x6).1 : Int) &&& BitVec.ofInt IntKind.i32.bits 15).toNat : Int))) && decide ((IntKind.i32.wrap ((BitVec.ofInt IntKind.i32.bits ((runeAt x5 x6).1 : Int) &&& BitVec.ofInt IntKind.i32.bits 15).toNat : Int)) < (16 : Int))) (strings_Builder_WriteByte_4b84 ((([48, 49, 50, 51, 52, 53, 54, 55, 56, 57, 97, 98, 99, 100, 101, 102] : Str).getD ((IntKind.i32.wrap ((BitVec.ofInt IntKind.i32.bits ((runeAt x5 x6).1 : Int) &&& BitVec.ofInt IntKind.i32.bits 15).toNat : Int)).toNat) 0).toNat : Int) y12 (fun y13 => rec' y13 x5 (x6 + (runeAt x5 x6).2))))))) else (strings_Builder_WriteRune_dc6e ((runeAt x5 x6).1 : Int) x4 (fun y14 y15 => rec' y15 x5 (x6 + (runeAt x5 x6).2)))))) else (e0 x4)
noncomputable def quote_Quote_6_0_L {R : Type} : quote_Quote_6_0_ty R
  | 0, _, _, _, _ => none
  | n + 1, x0', x1', x2', e0 => quote_Quote_6_0_B strings_Builder_WriteByte_4b84 quote_short strings_Builder_WriteString_df1e strings_Builder_WriteRune_dc6e (fun x0' x1' x2' => quote_Quote_6_0_L n x0' x1' x2' e0) x0' x1' x2' e0
noncomputable def quote_Quote_6_0_h : Hint := { live := [4, 13], own := [], rows := [], cells := [], drop := [], out := [2, 3, 4] }
abbrev quote_Quote_6_0_D : Type := (List Int) × Str × Nat
noncomputable def quote_Quote_6_0_enc : quote_Quote_6_0_D → St := fun d => ⟨[.undef, .undef, .undef, .undef, .ptr 0 0, .undef, .undef, .undef, .undef, .undef, .undef, .undef, .undef, .ptr 1 0, .undef, .undef, .undef, .undef, .undef, .undef, .undef, .undef, .undef, .undef, .undef, .undef, .undef, .undef, .undef, .undef, .undef, .undef, .undef, .undef, .undef, .undef, .undef, .undef, .undef, .undef, .undef], [.bld (.sl (.int .u8) d.1 (.own 2)), .iter d.2.1 d.2.2, .tok]⟩
noncomputable def quote_Quote_6_0_x0 {R : Type} (K : Ex → St → Option R) (q0 : List Int) : Option R := K (.exit 0) ⟨[.undef, .undef, .undef, .undef, .ptr 0 0, .undef, .undef, .undef, .undef, .undef, .undef, .undef, .undef, .undef, .undef, .undef, .undef, .undef, .undef, .undef, .undef, .undef, .undef, .undef, .undef, .undef, .undef, .undef, .undef, .undef, .undef, .undef, .undef, .undef, .undef, .undef, .undef, .undef, .undef, .undef, .undef], [.bld (.sl (.int .u8) q0 (.own 1)), .tok]⟩
noncomputable def quote_Quote_6_0_s {R : Type} (strings_Builder_WriteByte_4b84 : strings_Builder_WriteByte_4b84_ty R) (quote_short : quote_short_ty R) (strings_Builder_WriteString_df1e : strings_Builder_WriteString_df1e_ty R) (strings_Builder_WriteRune_dc6e : strings_Builder_WriteRune_dc6e_ty R) (K : Ex → St → Option R) (rc : quote_Quote_6_0_D → Option R) (d : quote_Quote_6_0_D) : Option R := quote_Quote_6_0_B strings_Builder_WriteByte_4b84 quote_short strings_Builder_WriteString_df1e strings_Builder_WriteRune_dc6e (fun z0 z1 z2 => rc (z0, z1, z2)) d.1 d.2.1 d.2.2 (quote_Quote_6_0_x0 K)
noncomputable def quote_Quote_6_0_A {R : Type} (K : Ex → St → Option R) (n : Nat) (d : quote_Quote_6_0_D) : Option R := quote_Quote_6_0_L n d.1 d.2.1 d.2.2 (quote_Quote_6_0_x0 K)
abbrev quote_Quote_6_0_p : List Pat := [.leaf (.undef), .leaf (.undef), .leaf (.undef), .leaf (.undef), .leaf (.ptr 0 0), .leaf (.undef), .leaf (.undef), .leaf (.undef), .leaf (.undef), .leaf (.undef), .leaf (.undef), .leaf (.undef), .leaf (.undef), .leaf (.ptr 1 0), .leaf (.undef), .leaf (.undef), .leaf (.undef), .leaf (.undef), .leaf (.undef), .leaf (.undef), .leaf (.undef), .leaf (.undef), .leaf (.undef), .leaf (.undef), .leaf (.undef), .leaf (.undef), .leaf (.undef), .leaf (.undef), .leaf (.undef), .leaf (.undef), .leaf (.undef), .leaf (.undef), .leaf (.undef), .leaf (.undef), .leaf (.undef), .leaf (.undef), .leaf (.undef), .leaf (.undef), .leaf (.undef), .leaf (.undef), .leaf (.undef)]
abbrev quote_Quote_6_0_q : List HPat := [.bld (.slo (.int .u8) 2), .iter, .tok]
noncomputable def quote_Quote_6_0_f (x : Pat.dens quote_Quote_6_0_p) (y : HPat.dens quote_Quote_6_0_q) : Nat := (List.length y.1 + List.length y.2.1.1 + 64)
noncomputable def quote_Quote_6_0_d (x : Pat.dens quote_Quote_6_0_p) (y : HPat.dens quote_Quote_6_0_q) : quote_Quote_6_0_D := (y.1, y.2.1.1, y.2.1.2)
noncomputable def quote_Quote_6_0_rr {R : Type} (L : quote_Quote_6_0_ty R) : Pat.dens quote_Quote_6_0_p → HPat.dens quote_Quote_6_0_q → (Ex → St → Option R) → Option R := fun x y K => L (quote_Quote_6_0_f x y) y.1 y.2.1.1 y.2.1.2 (quote_Quote_6_0_x0 K)
noncomputable def quote_Quote_T (R : Type) (quote_Quote_6_0_L : quote_Quote_6_0_ty R) : Nat → Option (Hint × LSpec R) := fun i => match i with
  | 6 => some (quote_Quote_6_0_h, (loopBy quote_Quote_6_0_p quote_Quote_6_0_q (quote_Quote_6_0_rr quote_Quote_6_0_L) loopNo))
  | _ => none

theorem quote_Quote_6_0_B_ok {R : Type} (quote_Whole : quote_Whole_ty R) (strings_Builder_WriteByte_b66c : strings_Builder_WriteByte_b66c_ty R) (strings_Builder_WriteByte_4b84 : strings_Builder_WriteByte_4b84_ty R) (quote_short : quote_short_ty R) (strings_Builder_WriteString_df1e : strings_Builder_WriteString_df1e_ty R) (strings_Builder_WriteRune_dc6e : strings_Builder_WriteRune_dc6e_ty R) (quote_Quote_6_0_L : quote_Quote_6_0_ty R) (K : Ex → St → Option R) (rc : St → Option R) (d : quote_Quote_6_0_D) : roundOf tt (quote_Quote_E R quote_Whole strings_Builder_WriteByte_b66c strings_Builder_WriteByte_4b84 quote_short strings_Builder_WriteString_df1e strings_Builder_WriteRune_dc6e) (quote_Quote_T R quote_Quote_6_0_L) 0 ((loopsOf (codeOf Tryz.f26)).getD 0 .skip) quote_Quote_6_0_h (quote_Quote_6_0_enc d) rc K = quote_Quote_6_0_s strings_Builder_WriteByte_4b84 quote_short strings_Builder_WriteString_df1e strings_Builder_WriteRune_dc6e K (fun d => rc (quote_Quote_6_0_enc d)) d := by kernel_rfl
theorem quote_Quote_6_0_A_succ {R : Type} (K : Ex → St → Option R) (n : Nat) (d : quote_Quote_6_0_D) : quote_Quote_6_0_A K (n + 1) d = quote_Quote_6_0_s strings_Builder_WriteByte_4b84 quote_short strings_Builder_WriteString_df1e strings_Builder_WriteRune_dc6e K (quote_Quote_6_0_A K n) d := by kernel_rfl
theorem quote_Quote_6_0_A_zero {R : Type} (K : Ex → St → Option R) (d : quote_Quote_6_0_D) : quote_Quote_6_0_A K 0 d = none := by kernel_rfl
theorem quote_Quote_6_0_e_ok (x : Pat.dens quote_Quote_6_0_p) (y : HPat.dens quote_Quote_6_0_q) : (⟨Pat.encL quote_Quote_6_0_p x, HPat.encL quote_Quote_6_0_q y⟩ : St) = quote_Quote_6_0_enc (quote_Quote_6_0_d x y) := by kernel_rfl
theorem quote_Quote_6_0_r_ok {R : Type} (x : Pat.dens quote_Quote_6_0_p) (y : HPat.dens quote_Quote_6_0_q) (K : Ex → St → Option R) : quote_Quote_6_0_rr (quote_Quote_6_0_L) x y K = quote_Quote_6_0_A K (quote_Quote_6_0_f x y) (quote_Quote_6_0_d x y) := by kernel_rfl
theorem quote_Quote_6_0_ok {R : Type} (other : LSpec R) (ho : LsOk tt (quote_Quote_E R quote_Whole strings_Builder_WriteByte_b66c strings_Builder_WriteByte_4b84 quote_short strings_Builder_WriteString_df1e strings_Builder_WriteRune_dc6e) (quote_Quote_T R quote_Quote_6_0_L) 0 ((loopsOf (codeOf Tryz.f26)).getD 0 .skip) quote_Quote_6_0_h other) : LsOk tt (quote_Quote_E R quote_Whole strings_Builder_WriteByte_b66c strings_Builder_WriteByte_4b84 quote_short strings_Builder_WriteString_df1e strings_Builder_WriteRune_dc6e) (quote_Quote_T R quote_Quote_6_0_L) 0 ((loopsOf (codeOf Tryz.f26)).getD 0 .skip) quote_Quote_6_0_h (loopBy quote_Quote_6_0_p quote_Quote_6_0_q (quote_Quote_6_0_rr (quote_Quote_6_0_L)) other) :=
  loopBy_tie (A := quote_Quote_6_0_A) ho (loop_tie quote_Quote_6_0_enc (quote_Quote_6_0_s strings_Builder_WriteByte_4b84 quote_short strings_Builder_WriteString_df1e strings_Builder_WriteRune_dc6e) (quote_Quote_6_0_A) (quote_Quote_6_0_A_zero) (quote_Quote_6_0_B_ok quote_Whole strings_Builder_WriteByte_b66c strings_Builder_WriteByte_4b84 quote_short strings_Builder_WriteString_df1e strings_Builder_WriteRune_dc6e quote_Quote_6_0_L) (quote_Quote_6_0_A_succ)) quote_Quote_6_0_f quote_Quote_6_0_d quote_Quote_6_0_e_ok (quote_Quote_6_0_r_ok)

noncomputable def quote_Quote_X {R : Type} (quote_Whole : quote_Whole_ty R) (strings_Builder_WriteByte_b66c : strings_Builder_WriteByte_b66c_ty R) (strings_Builder_WriteByte_4b84 : strings_Builder_WriteByte_4b84_ty R) (quote_Quote_6_0_L : quote_Quote_6_0_ty R) (x1 : Str) (k0 : Str → Bool → Option R) : Option R :=
  quote_Whole x1 (fun y2 => bif (!y2) then (k0 ([] : Str) false) else (strings_Builder_WriteByte_b66c 34 (fun y3 => quote_Quote_6_0_L (List.length y3 + List.length x1 + 64) y3 x1 0 (fun y16 => strings_Builder_WriteByte_4b84 34 y16 (fun y17 => k0 (bstr y17) true)))))
noncomputable def quote_Quote {R : Type} : quote_Quote_ty R := fun x1 k0 => quote_Quote_X quote_Whole strings_Builder_WriteByte_b66c strings_Builder_WriteByte_4b84 quote_Quote_6_0_L x1 k0
theorem quote_Quote_ok {R : Type} (quote_Whole : quote_Whole_ty R) (strings_Builder_WriteByte_b66c : strings_Builder_WriteByte_b66c_ty R) (strings_Builder_WriteByte_4b84 : strings_Builder_WriteByte_4b84_ty R) (quote_short : quote_short_ty R) (strings_Builder_WriteString_df1e : strings_Builder_WriteString_df1e_ty R) (strings_Builder_WriteRune_dc6e : strings_Builder_WriteRune_dc6e_ty R) (quote_Quote_6_0_L : quote_Quote_6_0_ty R) (x1 : Str) (k : V → Heap → Option R) : funK tt (quote_Quote_E R quote_Whole strings_Builder_WriteByte_b66c strings_Builder_WriteByte_4b84 quote_short strings_Builder_WriteString_df1e strings_Builder_WriteRune_dc6e) (quote_Quote_T R quote_Quote_6_0_L) false Tryz.f26 (codeOf Tryz.f26) [.str x1] [] k =
    quote_Quote_X quote_Whole strings_Builder_WriteByte_b66c strings_Builder_WriteByte_4b84 quote_Quote_6_0_L x1 (fun q0 q1 => k (.tuple [.str q0, .bool q1]) []) := by kernel_rfl
theorem quote_Quote_loops (R : Type) : ∀ a ∈ loopsOf (codeOf Tryz.f26), LoopOk tt (quote_Quote_E R quote_Whole strings_Builder_WriteByte_b66c strings_Builder_WriteByte_4b84 quote_short strings_Builder_WriteString_df1e strings_Builder_WriteRune_dc6e) (quote_Quote_T R quote_Quote_6_0_L) 0 a := by
  refine loops_ok 1 (by kernel_rfl) fun i hi => ?_
  match i, hi with
  | 0, _ => exact loopOk_some (by kernel_rfl) (quote_Quote_6_0_ok _ loopNo_ok)
  | n + 1, hi => omega
theorem quote_Quote_S_ok (R : Type) (other : Yard.Spec R) (ho : Yard.Spec.Ok Tryz.prog 26 other) : Yard.Spec.Ok Tryz.prog 26 (specBy quote_Quote_p quote_Quote_q (quote_Quote_rr quote_Quote) other) :=
  specBy_ok ho (funK_sound TT mixed (quote_Quote_EOk R) (keep := false) rfl rfl rfl rfl 0 (quote_Quote_loops R)) fun (x : Pat.dens quote_Quote_p) (y : HPat.dens quote_Quote_q) k => quote_Quote_ok quote_Whole strings_Builder_WriteByte_b66c strings_Builder_WriteByte_4b84 quote_short strings_Builder_WriteString_df1e strings_Builder_WriteRune_dc6e quote_Quote_6_0_L x.1 k

/-! ### humpyard/humpyardlaw01.pick -/
abbrev law01_pick_ty (R : Type) : Type := Int → Int → (Int → Option R) → Option R
abbrev law01_pick_p : List Pat := [.leaf (.int .i64), .leaf (.int .i64)]
abbrev law01_pick_q : List HPat := []
noncomputable def law01_pick_rr {R : Type} (fn : law01_pick_ty R) : Pat.dens law01_pick_p → HPat.dens law01_pick_q → (V → Heap → Option R) → Option R := fun x y k => fn x.1 x.2.1 (fun q0 => k (.int .i64 q0) [])
noncomputable def law01_pick_E (R : Type) : Env R := fun i => match i with
  | _ => none
theorem law01_pick_EOk (R : Type) : EOk Tryz.prog (law01_pick_E R) := by
  intro i b sp h
  unfold law01_pick_E at h
  split at h
  · cases h

noncomputable def law01_pick_T (R : Type) : Nat → Option (Hint × LSpec R) := fun i => match i with
  | _ => none

noncomputable def law01_pick_X {R : Type} (x1 : Int) (x2 : Int) (k0 : Int → Option R) : Option R :=
  bif (decide (x1 < (0 : Int))) then (chk (!decide (x2 = 0)) (k0 (Int.tmod (IntKind.i64.wrap (0 - (IntKind.i64.wrap (x1 + 1)))) x2))) else (chk (!decide (x2 = 0)) (k0 (Int.tmod x1 x2)))
noncomputable def law01_pick {R : Type} : law01_pick_ty R := fun x1 x2 k0 => law01_pick_X x1 x2 k0
theorem law01_pick_ok {R : Type} (x1 : Int) (x2 : Int) (k : V → Heap → Option R) : funK tt (law01_pick_E R) (law01_pick_T R) false Tryz.f54 (codeOf Tryz.f54) [.int .i64 x1, .int .i64 x2] [] k =
    law01_pick_X x1 x2 (fun q0 => k (.int .i64 q0) []) := by kernel_rfl
theorem law01_pick_loops (R : Type) : ∀ a ∈ loopsOf (codeOf Tryz.f54), LoopOk tt (law01_pick_E R) (law01_pick_T R) 0 a := by
  refine loops_ok 0 (by kernel_rfl) fun i hi => ?_
  omega
theorem law01_pick_S_ok (R : Type) (other : Yard.Spec R) (ho : Yard.Spec.Ok Tryz.prog 54 other) : Yard.Spec.Ok Tryz.prog 54 (specBy law01_pick_p law01_pick_q (law01_pick_rr law01_pick) other) :=
  specBy_ok ho (funK_sound TT mixed (law01_pick_EOk R) (keep := false) rfl rfl rfl rfl 0 (law01_pick_loops R)) fun (x : Pat.dens law01_pick_p) (y : HPat.dens law01_pick_q) k => law01_pick_ok x.1 x.2.1 k

/-! ### humpyard/humpyardlaw01.Fit -/
abbrev law01_Fit_ty (R : Type) : Type := Int → Int → (Dcm → Option R) → Option R
abbrev law01_Fit_p : List Pat := [.leaf (.int .i64), .leaf (.int .i64)]
abbrev law01_Fit_q : List HPat := []
noncomputable def law01_Fit_rr {R : Type} (fn : law01_Fit_ty R) : Pat.dens law01_Fit_p → HPat.dens law01_Fit_q → (V → Heap → Option R) → Option R := fun x y k => fn x.1 x.2.1 (fun q0 => k (.agg [.int .i64 q0.mant, .int .i64 q0.exp]) [])
abbrev law01_Fit_3_0_ty (R : Type) : Type := Nat → Int → Int → Dcm → (Int → Int → Dcm → Option R) → Option R
noncomputable def law01_Fit_E (R : Type) (law01_pick : law01_pick_ty R) : Env R := fun i => match i with
  | 54 => some (true, (specBy law01_pick_p law01_pick_q (law01_pick_rr law01_pick) specNo))
  | _ => none
theorem law01_Fit_EOk (R : Type) : EOk Tryz.prog (law01_Fit_E R law01_pick) := by
  intro i b sp h
  unfold law01_Fit_E at h
  split at h
  · cases h; exact ⟨(law01_pick_S_ok R _ (specNo_ok _)), fun h => nomatch h⟩
  · cases h

noncomputable def law01_Fit_3_0_B {R : Type} (rec' : Int → Int → Dcm → Option R) (x5 : Int) (x6 : Int) (x7 : Dcm) (e0 : Int → Int → Dcm → Option R) : Option R :=
  bif (x5 != 0) then (bif ((Int.tmod x5 10) == 0) then (rec' (IntKind.i64.wrap (Int.tdiv x5 10)) x6 x7) else (e0 x5 x6 x7)) else (e0 x5 x6 x7)
noncomputable def law01_Fit_3_0_L {R : Type} : law01_Fit_3_0_ty R
  | 0, _, _, _, _ => none
  | n + 1, x0', x1', x2', e0 => law01_Fit_3_0_B (fun x0' x1' x2' => law01_Fit_3_0_L n x0' x1' x2' e0) x0' x1' x2' e0
noncomputable def law01_Fit_3_0_h : Hint := { live := [4, 5, 6], own := [], rows := [], cells := [], drop := [], out := [4, 5, 6] }
abbrev law01_Fit_3_0_D : Type := Int × Int × Dcm
noncomputable def law01_Fit_3_0_enc : law01_Fit_3_0_D → St := fun d => ⟨[.undef, .undef, .undef, .undef, .ptr 0 0, .int .i64 d.1, .int .i64 d.2.1, .undef, .undef, .undef, .undef, .undef, .undef, .undef, .undef, .undef, .undef, .undef, .undef, .undef, .undef, .undef, .undef, .undef, .undef, .undef, .undef], [.cells [.int .i64 d.2.2.mant, .int .i64 d.2.2.exp]]⟩
noncomputable def law01_Fit_3_0_x0 {R : Type} (K : Ex → St → Option R) (q0 : Int) (q1 : Int) (q2 : Dcm) : Option R := K (.exit 0) ⟨[.undef, .undef, .undef, .undef, .ptr 0 0, .int .i64 q0, .int .i64 q1, .undef, .undef, .undef, .undef, .undef, .undef, .undef, .undef, .undef, .undef, .undef, .undef, .undef, .undef, .undef, .undef, .undef, .undef, .undef, .undef], [.cells [.int .i64 q2.mant, .int .i64 q2.exp]]⟩
noncomputable def law01_Fit_3_0_s {R : Type} (K : Ex → St → Option R) (rc : law01_Fit_3_0_D → Option R) (d : law01_Fit_3_0_D) : Option R := law01_Fit_3_0_B (fun z0 z1 z2 => rc (z0, z1, z2)) d.1 d.2.1 d.2.2 (law01_Fit_3_0_x0 K)
noncomputable def law01_Fit_3_0_A {R : Type} (K : Ex → St → Option R) (n : Nat) (d : law01_Fit_3_0_D) : Option R := law01_Fit_3_0_L n d.1 d.2.1 d.2.2 (law01_Fit_3_0_x0 K)
abbrev law01_Fit_3_0_p : List Pat := [.leaf (.undef), .leaf (.undef), .leaf (.undef), .leaf (.undef), .leaf (.ptr 0 0), .leaf (.int .i64), .leaf (.int .i64), .leaf (.undef), .leaf (.undef), .leaf (.undef), .leaf (.undef), .leaf (.undef), .leaf (.undef), .leaf (.undef), .leaf (.undef), .leaf (.undef), .leaf (.undef), .leaf (.undef), .leaf (.undef), .leaf (.undef), .leaf (.undef), .leaf (.undef), .leaf (.undef), .leaf (.undef), .leaf (.undef), .leaf (.undef), .leaf (.undef)]
abbrev law01_Fit_3_0_q : List HPat := [.cells [.int .i64, .int .i64]]
noncomputable def law01_Fit_3_0_f (x : Pat.dens law01_Fit_3_0_p) (y : HPat.dens law01_Fit_3_0_q) : Nat := (Int.natAbs x.2.2.2.2.2.1 + Int.natAbs x.2.2.2.2.2.2.1 + Dcm.fu (⟨y.1.1, y.1.2.1⟩ : Dcm) + 64)
noncomputable def law01_Fit_3_0_d (x : Pat.dens law01_Fit_3_0_p) (y : HPat.dens law01_Fit_3_0_q) : law01_Fit_3_0_D := (x.2.2.2.2.2.1, x.2.2.2.2.2.2.1, (⟨y.1.1, y.1.2.1⟩ : Dcm))
noncomputable def law01_Fit_3_0_rr {R : Type} (L : law01_Fit_3_0_ty R) : Pat.dens law01_Fit_3_0_p → HPat.dens law01_Fit_3_0_q → (Ex → St → Option R) → Option R := fun x y K => L (law01_Fit_3_0_f x y) x.2.2.2.2.2.1 x.2.2.2.2.2.2.1 (⟨y.1.1, y.1.2.1⟩ : Dcm) (law01_Fit_3_0_x0 K)
noncomputable def law01_Fit_T (R : Type) (law01_Fit_3_0_L : law01_Fit_3_0_ty R) : Nat → Option (Hint × LSpec R) := fun i => match i with
  | 3 => some (law01_Fit_3_0_h, (loopBy law01_Fit_3_0_p law01_Fit_3_0_q (law01_Fit_3_0_rr law01_Fit_3_0_L) loopNo))
  | _ => none

theorem law01_Fit_3_0_B_ok {R : Type} (law01_pick : law01_pick_ty R) (law01_Fit_3_0_L : law01_Fit_3_0_ty R) (K : Ex → St → Option R) (rc : St → Option R) (d : law01_Fit_3_0_D) : roundOf tt (law01_Fit_E R law01_pick) (law01_Fit_T R law01_Fit_3_0_L) 0 ((loopsOf (codeOf Tryz.f28)).getD 0 .skip) law01_Fit_3_0_h (law01_Fit_3_0_enc d) rc K = law01_Fit_3_0_s K (fun d => rc (law01_Fit_3_0_enc d)) d := by kernel_rfl
theorem law01_Fit_3_0_A_succ {R : Type} (K : Ex → St → Option R) (n : Nat) (d : law01_Fit_3_0_D) : law01_Fit_3_0_A K (n + 1) d = law01_Fit_3_0_s K (law01_Fit_3_0_A K n) d := by kernel_rfl
theorem law01_Fit_3_0_A_zero {R : Type} (K : Ex → St → Option R) (d : law01_Fit_3_0_D) : law01_Fit_3_0_A K 0 d = none := by kernel_rfl
theorem law01_Fit_3_0_e_ok (x : Pat.dens law01_Fit_3_0_p) (y : HPat.dens law01_Fit_3_0_q) : (⟨Pat.encL law01_Fit_3_0_p x, HPat.encL law01_Fit_3_0_q y⟩ : St) = law01_Fit_3_0_enc (law01_Fit_3_0_d x y) := by kernel_rfl
theorem law01_Fit_3_0_r_ok {R : Type} (x : Pat.dens law01_Fit_3_0_p) (y : HPat.dens law01_Fit_3_0_q) (K : Ex → St → Option R) : law01_Fit_3_0_rr (law01_Fit_3_0_L) x y K = law01_Fit_3_0_A K (law01_Fit_3_0_f x y) (law01_Fit_3_0_d x y) := by kernel_rfl
theorem law01_Fit_3_0_ok {R : Type} (other : LSpec R) (ho : LsOk tt (law01_Fit_E R law01_pick) (law01_Fit_T R law01_Fit_3_0_L) 0 ((loopsOf (codeOf Tryz.f28)).getD 0 .skip) law01_Fit_3_0_h other) : LsOk tt (law01_Fit_E R law01_pick) (law01_Fit_T R law01_Fit_3_0_L) 0 ((loopsOf (codeOf Tryz.f28)).getD 0 .skip) law01_Fit_3_0_h (loopBy law01_Fit_3_0_p law01_Fit_3_0_q (law01_Fit_3_0_rr (law01_Fit_3_0_L)) other) :=
  loopBy_tie (A := law01_Fit_3_0_A) ho (loop_tie law01_Fit_3_0_enc (law01_Fit_3_0_s) (law01_Fit_3_0_A) (law01_Fit_3_0_A_zero) (law01_Fit_3_0_B_ok law01_pick law01_Fit_3_0_L) (law01_Fit_3_0_A_succ)) law01_Fit_3_0_f law01_Fit_3_0_d law01_Fit_3_0_e_ok (law01_Fit_3_0_r_ok)

noncomputable def law01_Fit_X {R : Type} (law01_pick : law01_pick_ty R) (law01_Fit_3_0_L : law01_Fit_3_0_ty R) (x1 : Int) (x2 : Int) (k0 : Dcm → Option R) : Option R :=
  law01_pick x1 2000000000000001 (fun y3 => law01_pick x2 19 (fun y4 => law01_Fit_3_0_L (Int.natAbs (IntKind.i64.wrap (y3 - 1000000000000000)) + Int.natAbs (IntKind.i64.wrap (y4 - 9)) + Dcm.fu (⟨0, 0⟩ : Dcm) + 64) (IntKind.i64.wrap (y3 - 1000000000000000)) (IntKind.i64.wrap (y4 - 9)) (⟨0, 0⟩ : Dcm) (fun y9 y10 y11 => bif (y9 == 0) then (k0 (⟨y9, 0⟩ : Dcm)) else (k0 (⟨y9, y10⟩ : Dcm)))))
noncomputable def law01_Fit {R : Type} : law01_Fit_ty R := fun x1 x2 k0 => law01_Fit_X law01_pick law01_Fit_3_0_L x1 x2 k0
theorem law01_Fit_ok {R : Type} (law01_pick : law01_pick_ty R) (law01_Fit_3_0_L : law01_Fit_3_0_ty R) (x1 : Int) (x2 : Int) (k : V → Heap → Option R) : funK tt (law01_Fit_E R law01_pick) (law01_Fit_T R law01_Fit_3_0_L) false Tryz.f28 (codeOf Tryz.f28) [.int .i64 x1, .int .i64 x2] [] k =
    law01_Fit_X law01_pick law01_Fit_3_0_L x1 x2 (fun q0 => k (.agg [.int .i64 q0.mant, .int .i64 q0.exp]) []) := by kernel_rfl
theorem law01_Fit_loops (R : Type) : ∀ a ∈ loopsOf (codeOf Tryz.f28), LoopOk tt (law01_Fit_E R law01_pick) (law01_Fit_T R law01_Fit_3_0_L) 0 a := by
  refine loops_ok 1 (by kernel_rfl) fun i hi => ?_
  match i, hi with
  | 0, _ => exact loopOk_some (by kernel_rfl) (law01_Fit_3_0_ok _ loopNo_ok)
  | n + 1, hi => omega
theorem law01_Fit_S_ok (R : Type) (other : Yard.Spec R) (ho : Yard.Spec.Ok Tryz.prog 28 other) : Yard.Spec.Ok Tryz.prog 28 (specBy law01_Fit_p law01_Fit_q (law01_Fit_rr law01_Fit) other) :=
  specBy_ok ho (funK_sound TT mixed (law01_Fit_EOk R) (keep := false) rfl rfl rfl rfl 0 (law01_Fit_loops R)) fun (x : Pat.dens law01_Fit_p) (y : HPat.dens law01_Fit_q) k => law01_Fit_ok law01_pick law01_Fit_3_0_L x.1 x.2.1 k

/-! ### humpyard/decimal.Right -/
abbrev decimal_Right_ty (R : Type) : Type := Dcm → (Bool → Option R) → Option R
abbrev decimal_Right_p : List Pat := [.agg [.int .i64, .int .i64]]
abbrev decimal_Right_q : List HPat := []
noncomputable def decimal_Right_rr {R : Type} (fn : decimal_Right_ty R) : Pat.dens decimal_Right_p → HPat.dens decimal_Right_q → (V → Heap → Option R) → Option R := fun x y k => fn (⟨x.1.1, x.1.2.1⟩ : Dcm) (fun q0 => k (.bool q0) [])
noncomputable def decimal_Right_E (R : Type) (decimal_within_int : decimal_within_int_ty R) : Env R := fun i => match i with
  | 91 => some (true, (specBy decimal_within_int_p decimal_within_int_q (decimal_within_int_rr decimal_within_int) specNo))
  | _ => none
theorem decimal_Right_EOk (R : Type) : EOk Tryz.prog (decimal_Right_E R decimal_within_int) := by
  intro i b sp h
  unfold decimal_Right_E at h
  split at h
  · cases h; exact ⟨(decimal_within_int_S_ok R _ (specNo_ok _)), fun h => nomatch h⟩
  · cases h

noncomputable def decimal_Right_T (R : Type) : Nat → Option (Hint × LSpec R) := fun i => match i with
  | _ => none

noncomputable def decimal_Right_X {R : Type} (decimal_within_int : decimal_within_int_ty R) (x1 : Dcm) (k0 : Bool → Option R) : Option R :=
  bif (x1.mant == 0) then (k0 (x1.exp == 0)) else (bif ((Int.tmod x1.mant 10) != 0) then (decimal_within_int (-1000000000000000) x1.mant 1000000000000000 (fun y2 => bif y2 then (decimal_within_int (-9) x1.exp 9 (fun y3 => k0 y3)) else (k0 false))) else (k0 false))
noncomputable def decimal_Right {R : Type} : decimal_Right_ty R := fun x1 k0 => decimal_Right_X decimal_within_int x1 k0
theorem decimal_Right_ok {R : Type} (decimal_within_int : decimal_within_int_ty R) (x1 : Dcm) (k : V → Heap → Option R) : funK tt (decimal_Right_E R decimal_within_int) (decimal_Right_T R) false Tryz.f65 (codeOf Tryz.f65) [.agg [.int .i64 x1.mant, .int .i64 x1.exp]] [] k =
    decimal_Right_X decimal_within_int x1 (fun q0 => k (.bool q0) []) := by kernel_rfl
theorem decimal_Right_loops (R : Type) : ∀ a ∈ loopsOf (codeOf Tryz.f65), LoopOk tt (decimal_Right_E R decimal_within_int) (decimal_Right_T R) 0 a := by
  refine loops_ok 0 (by kernel_rfl) fun i hi => ?_
  omega
theorem decimal_Right_S_ok (R : Type) (other : Yard.Spec R) (ho : Yard.Spec.Ok Tryz.prog 65 other) : Yard.Spec.Ok Tryz.prog 65 (specBy decimal_Right_p decimal_Right_q (decimal_Right_rr decimal_Right) other) :=
  specBy_ok ho (funK_sound TT mixed (decimal_Right_EOk R) (keep := false) rfl rfl rfl rfl 0 (decimal_Right_loops R)) fun (x : Pat.dens decimal_Right_p) (y : HPat.dens decimal_Right_q) k => decimal_Right_ok decimal_within_int (⟨x.1.1, x.1.2.1⟩ : Dcm) k

/-! ### (*strings.Builder).WriteString -/
abbrev strings_Builder_WriteString_fb8e_ty (R : Type) : Type := Str → (Int → (List Int) → Option R) → Option R
abbrev strings_Builder_WriteString_fb8e_p : List Pat := [.leaf (.ptr 0 0), .leaf (.str)]
abbrev strings_Builder_WriteString_fb8e_q : List HPat := [.bld (.nilsl)]
noncomputable def strings_Builder_WriteString_fb8e_rr {R : Type} (fn : strings_Builder_WriteString_fb8e_ty R) : Pat.dens strings_Builder_WriteString_fb8e_p → HPat.dens strings_Builder_WriteString_fb8e_q → (V → Heap → Option R) → Option R := fun x y k => fn x.2.1 (fun q0 q1 => k (.tuple [.int .i64 q0, .niliface]) [.bld (.sl (.int .u8) q1 (.own 1)), .tok])
noncomputable def strings_Builder_WriteString_fb8e_E (R : Type) : Env R := fun i => match i with
  | 73 => some (false, (bcc_S R))
  | _ => none
theorem strings_Builder_WriteString_fb8e_EOk (R : Type) : EOk Tryz.prog (strings_Builder_WriteString_fb8e_E R) := by
  intro i b sp h
  unfold strings_Builder_WriteString_fb8e_E at h
  split at h
  · cases h; exact ⟨(bcc_is), fun _ h => nomatch h⟩
  · cases h

noncomputable def strings_Builder_WriteString_fb8e_T (R : Type) : Nat → Option (Hint × LSpec R) := fun i => match i with
  | _ => none

noncomputable def strings_Builder_WriteString_fb8e_X {R : Type} (x1 : Str) (k0 : Int → (List Int) → Option R) : Option R :=
  chk (decide ((0 + (bytesN x1).length) * 1 ≤ 140737488355328)) (k0 (x1.length : Int) (bytesN x1))
noncomputable def strings_Builder_WriteString_fb8e {R : Type} : strings_Builder_WriteString_fb8e_ty R := fun x1 k0 => strings_Builder_WriteString_fb8e_X x1 k0
theorem strings_Builder_WriteString_fb8e_ok {R : Type} (x1 : Str) (k : V → Heap → Option R) : funK tt (strings_Builder_WriteString_fb8e_E R) (strings_Builder_WriteString_fb8e_T R) false Tryz.f52 (codeOf Tryz.f52) [.ptr 0 0, .str x1] [.bld (.nilsl)] k =
    strings_Builder_WriteString_fb8e_X x1 (fun q0 q1 => k (.tuple [.int .i64 q0, .niliface]) [.bld (.sl (.int .u8) q1 (.own 1)), .tok]) := by kernel_rfl
theorem strings_Builder_WriteString_fb8e_loops (R : Type) : ∀ a ∈ loopsOf (codeOf Tryz.f52), LoopOk tt (strings_Builder_WriteString_fb8e_E R) (strings_Builder_WriteString_fb8e_T R) 1 a := by
  refine loops_ok 0 (by kernel_rfl) fun i hi => ?_
  omega
theorem strings_Builder_WriteString_fb8e_S_ok (R : Type) (other : Yard.Spec R) (ho : Yard.Spec.Ok Tryz.prog 52 other) : Yard.Spec.Ok Tryz.prog 52 (specBy strings_Builder_WriteString_fb8e_p strings_Builder_WriteString_fb8e_q (strings_Builder_WriteString_fb8e_rr strings_Builder_WriteString_fb8e) other) :=
  specBy_ok ho (funK_sound TT mixed (strings_Builder_WriteString_fb8e_EOk R) (keep := false) rfl rfl rfl rfl 1 (strings_Builder_WriteString_fb8e_loops R)) fun (x : Pat.dens strings_Builder_WriteString_fb8e_p) (y : HPat.dens strings_Builder_WriteString_fb8e_q) k => strings_Builder_WriteString_fb8e_ok x.2.1 k

end Go.Proofs.YtmlkkgfenfdndaaGreatDoor

set_option linter.unusedVariables false
set_option maxRecDepth 100000
namespace Go.Proofs.YtmlkkgfenfdndaaGreatDoor
open Go Go.Yard

def mkD (u x : Int) : Dcm × Bool := if -1000000000000000 ≤ u ∧ u ≤ 1000000000000000 ∧ -9 ≤ x ∧ x ≤ 9 then (⟨u, x⟩, true) else (⟨0, 0⟩, false)

end Go.Proofs.YtmlkkgfenfdndaaGreatDoor

set_option linter.unusedVariables false
set_option maxRecDepth 100000
namespace Go.Proofs.YtmlkkgfenfdndaaGreatDoor
open Go Go.Yard Go.Lib

def Fm (d : Dcm) : Prop := (d.mant = 0 ∧ d.exp = 0) ∨ (Int.tmod d.mant 10 ≠ 0 ∧ -1000000000000000 ≤ d.mant ∧ d.mant ≤ 1000000000000000 ∧ -9 ≤ d.exp ∧ d.exp ≤ 9)

theorem tmod_neg {m : Int} (h : Int.tmod m 10 ≠ 0) : Int.tmod (-m) 10 ≠ 0 := by rw [Int.neg_tmod]; omega
theorem Fm.neg {d : Dcm} (h : Fm d) : Fm ⟨-d.mant, d.exp⟩ := by
  rcases h with h | h
  · exact .inl ⟨by simp only; omega, h.2⟩
  · exact .inr ⟨tmod_neg h.1, by simp only; omega, by simp only; omega, h.2.2.2⟩

end Go.Proofs.YtmlkkgfenfdndaaGreatDoor


set_option linter.unusedVariables false
set_option maxRecDepth 100000
namespace Go.Proofs.YtmlkkgfenfdndaaGreatDoor
open Go Go.Yard Go.Lib

end Go.Proofs.YtmlkkgfenfdndaaGreatDoor

set_option linter.unusedVariables false
set_option maxRecDepth 100000
namespace Go.Proofs.YtmlkkgfenfdndaaGreatDoor
open Go Go.Yard

end Go.Proofs.YtmlkkgfenfdndaaGreatDoor

/-
  Functions of the program as pure Lean functions, and the ties; printed by wip/tools/emit.py.
-/
set_option maxRecDepth 100000
set_option linter.unusedVariables false
namespace Go.Proofs.YtmlkkgfenfdndaaGreatDoor
open Go Go.Yard

/-! ### humpyard/decimal.Print -/
abbrev decimal_Print_ty (R : Type) : Type := Dcm → (Str → Option R) → Option R
abbrev decimal_Print_p : List Pat := [.agg [.int .i64, .int .i64]]
abbrev decimal_Print_q : List HPat := []
noncomputable def decimal_Print_rr {R : Type} (fn : decimal_Print_ty R) : Pat.dens decimal_Print_p → HPat.dens decimal_Print_q → (V → Heap → Option R) → Option R := fun x y k => fn (⟨x.1.1, x.1.2.1⟩ : Dcm) (fun q0 => k (.str q0) [])
noncomputable def decimal_Print_E (R : Type) (decimal_Right : decimal_Right_ty R) (strings_Builder_WriteByte_b66c : strings_Builder_WriteByte_b66c_ty R) (strings_Builder_WriteString_df1e : strings_Builder_WriteString_df1e_ty R) (strings_Builder_WriteString_fb8e : strings_Builder_WriteString_fb8e_ty R) : Env R := fun i => match i with
  | 65 => some (true, (specBy decimal_Right_p decimal_Right_q (decimal_Right_rr decimal_Right) specNo))
  | 50 => some (false, (specBy strings_Builder_WriteByte_b66c_p strings_Builder_WriteByte_b66c_q (strings_Builder_WriteByte_b66c_rr strings_Builder_WriteByte_b66c) specNo))
  | 52 => some (false, (specBy strings_Builder_WriteString_fb8e_p strings_Builder_WriteString_fb8e_q (strings_Builder_WriteString_fb8e_rr strings_Builder_WriteString_fb8e) (specBy strings_Builder_WriteString_df1e_p strings_Builder_WriteString_df1e_q (strings_Builder_WriteString_df1e_rr strings_Builder_WriteString_df1e) specNo)))
  | 39 => some (false, (bstr_S R))
  | 66 => some (true, (itoa_S R))
  | 67 => some (true, (rep_S R))
  | _ => none
theorem decimal_Print_EOk (R : Type) : EOk Tryz.prog (decimal_Print_E R decimal_Right strings_Builder_WriteByte_b66c strings_Builder_WriteString_df1e strings_Builder_WriteString_fb8e) := by
  intro i b sp h
  unfold decimal_Print_E at h
  split at h
  · cases h; exact ⟨(decimal_Right_S_ok R _ (specNo_ok _)), fun h => nomatch h⟩
  · cases h; exact ⟨(strings_Builder_WriteByte_b66c_S_ok R _ (specNo_ok _)), fun _ h => nomatch h⟩
  · cases h; exact ⟨(strings_Builder_WriteString_fb8e_S_ok R _ (strings_Builder_WriteString_df1e_S_ok R _ (specNo_ok _))), fun _ h => nomatch h⟩
  · cases h; exact ⟨(bstr_is), fun _ _ => bstr_soft⟩
  · cases h; exact ⟨(itoa_ok), fun h => nomatch h⟩
  · cases h; exact ⟨(rep_ok), fun h => nomatch h⟩
  · cases h

noncomputable def decimal_Print_T (R : Type) : Nat → Option (Hint × LSpec R) := fun i => match i with
  | _ => none

noncomputable def decimal_Print_X {R : Type} (decimal_Right : decimal_Right_ty R) (strings_Builder_WriteByte_b66c : strings_Builder_WriteByte_b66c_ty R) (strings_Builder_WriteString_df1e : strings_Builder_WriteString_df1e_ty R) (strings_Builder_WriteString_fb8e : strings_Builder_WriteString_fb8e_ty R) (x1 : Dcm) (k0 : Str → Option R) : Option R :=
  decimal_Right x1 (fun y2 => bif (!y2) then (k0 ([] : Str)) else (bif (decide (x1.mant < (0 : Int))) then (strings_Builder_WriteByte_b66c 45 (fun y3 => bif (decide (x1.exp ≥ (0 : Int))) then (chk (decide (0 ≤ x1.exp) && decide ((([48] : Str).length : Int) * x1.exp ≤ 140737488355328)) (chk (decide ((itoaS (max x1.mant (IntKind.i64.wrap (0 - x1.mant)))).length + (repS ([48] : Str) x1.exp).length ≤ 9223372036854775807)) (strings_Builder_WriteString_df1e ((itoaS (max x1.mant (IntKind.i64.wrap (0 - x1.mant)))) ++ (repS ([48] : Str) x1.exp)) y3 (fun y4 y5 => k0 (bstr y5))))) else (chk (decide (0 ≤ (max 0 (IntKind.i64.wrap ((IntKind.i64.wrap (1 - x1.exp)) - ((itoaS (max x1.mant (IntKind.i64.wrap (0 - x1.mant)))).length : Int))))) && decide ((([48] : Str).length : Int) * (max 0 (IntKind.i64.wrap ((IntKind.i64.wrap (1 - x1.exp)) - ((itoaS (max x1.mant (IntKind.i64.wrap (0 - x1.mant)))).length : Int)))) ≤ 140737488355328)) (chk (decide ((repS ([48] : Str) (max 0 (IntKind.i64.wrap ((IntKind.i64.wrap (1 - x1.exp)) - ((itoaS (max x1.mant (IntKind.i64.wrap (0 - x1.mant)))).length : Int))))).length + (itoaS (max x1.mant (IntKind.i64.wrap (0 - x1.mant)))).length ≤ 9223372036854775807)) (chk (decide ((0 : Int) ≤ (IntKind.i64.wrap ((((repS ([48] : Str) (max 0 (IntKind.i64.wrap ((IntKind.i64.wrap (1 - x1.exp)) - ((itoaS (max x1.mant (IntKind.i64.wrap (0 - x1.mant)))).length : Int))))) ++ (itoaS (max x1.mant (IntKind.i64.wrap (0 - x1.mant))))).length : Int) + x1.exp))) && decide ((IntKind.i64.wrap ((((repS ([48] : Str) (max 0 (IntKind.i64.wrap ((IntKind.i64.wrap (1 - x1.exp)) - ((itoaS (max x1.mant (IntKind.i64.wrap (0 - x1.mant)))).length : Int))))) ++ (itoaS (max x1.mant (IntKind.i64.wrap (0 - x1.mant))))).length : Int) + x1.exp)) ≤ ((repS ([48] : Str) (max 0 (IntKind.i64.wrap ((IntKind.i64.wrap (1 - x1.exp)) - ((itoaS (max x1.mant (IntKind.i64.wrap (0 - x1.mant)))).length : Int))))) ++ (itoaS (max x1.mant (IntKind.i64.wrap (0 - x1.mant))))).length)) (chk (decide ((0 : Int) ≤ (IntKind.i64.wrap ((((repS ([48] : Str) (max 0 (IntKind.i64.wrap ((IntKind.i64.wrap (1 - x1.exp)) - ((itoaS (max x1.mant (IntKind.i64.wrap (0 - x1.mant)))).length : Int))))) ++ (itoaS (max x1.mant (IntKind.i64.wrap (0 - x1.mant))))).length : Int) + x1.exp)))) (chk (decide (((((repS ([48] : Str) (max 0 (IntKind.i64.wrap ((IntKind.i64.wrap (1 - x1.exp)) - ((itoaS (max x1.mant (IntKind.i64.wrap (0 - x1.mant)))).length : Int))))) ++ (itoaS (max x1.mant (IntKind.i64.wrap (0 - x1.mant))))).drop 0).take ((IntKind.i64.wrap ((((repS ([48] : Str) (max 0 (IntKind.i64.wrap ((IntKind.i64.wrap (1 - x1.exp)) - ((itoaS (max x1.mant (IntKind.i64.wrap (0 - x1.mant)))).length : Int))))) ++ (itoaS (max x1.mant (IntKind.i64.wrap (0 - x1.mant))))).length : Int) + x1.exp)).toNat - 0)).length + 1 ≤ 9223372036854775807)) (chk (decide ((0 : Int) ≤ (((repS ([48] : Str) (max 0 (IntKind.i64.wrap ((IntKind.i64.wrap (1 - x1.exp)) - ((itoaS (max x1.mant (IntKind.i64.wrap (0 - x1.mant)))).length : Int))))) ++ (itoaS (max x1.mant (IntKind.i64.wrap (0 - x1.mant))))).length : Int)) && decide ((((repS ([48] : Str) (max 0 (IntKind.i64.wrap ((IntKind.i64.wrap (1 - x1.exp)) - ((itoaS (max x1.mant (IntKind.i64.wrap (0 - x1.mant)))).length : Int))))) ++ (itoaS (max x1.mant (IntKind.i64.wrap (0 - x1.mant))))).length : Int) ≤ ((repS ([48] : Str) (max 0 (IntKind.i64.wrap ((IntKind.i64.wrap (1 - x1.exp)) - ((itoaS (max x1.mant (IntKind.i64.wrap (0 - x1.mant)))).length : Int))))) ++ (itoaS (max x1.mant (IntKind.i64.wrap (0 - x1.mant))))).length)) (chk (decide ((0 : Int) ≤ (IntKind.i64.wrap ((((repS ([48] : Str) (max 0 (IntKind.i64.wrap ((IntKind.i64.wrap (1 - x1.exp)) - ((itoaS (max x1.mant (IntKind.i64.wrap (0 - x1.mant)))).length : Int))))) ++ (itoaS (max x1.mant (IntKind.i64.wrap (0 - x1.mant))))).length : Int) + x1.exp))) && decide ((IntKind.i64.wrap ((((repS ([48] : Str) (max 0 (IntKind.i64.wrap ((IntKind.i64.wrap (1 - x1.exp)) - ((itoaS (max x1.mant (IntKind.i64.wrap (0 - x1.mant)))).length : Int))))) ++ (itoaS (max x1.mant (IntKind.i64.wrap (0 - x1.mant))))).length : Int) + x1.exp)) ≤ (((repS ([48] : Str) (max 0 (IntKind.i64.wrap ((IntKind.i64.wrap (1 - x1.exp)) - ((itoaS (max x1.mant (IntKind.i64.wrap (0 - x1.mant)))).length : Int))))) ++ (itoaS (max x1.mant (IntKind.i64.wrap (0 - x1.mant))))).length : Int))) (chk (decide ((((((repS ([48] : Str) (max 0 (IntKind.i64.wrap ((IntKind.i64.wrap (1 - x1.exp)) - ((itoaS (max x1.mant (IntKind.i64.wrap (0 - x1.mant)))).length : Int))))) ++ (itoaS (max x1.mant (IntKind.i64.wrap (0 - x1.mant))))).drop 0).take ((IntKind.i64.wrap ((((repS ([48] : Str) (max 0 (IntKind.i64.wrap ((IntKind.i64.wrap (1 - x1.exp)) - ((itoaS (max x1.mant (IntKind.i64.wrap (0 - x1.mant)))).length : Int))))) ++ (itoaS (max x1.mant (IntKind.i64.wrap (0 - x1.mant))))).length : Int) + x1.exp)).toNat - 0)) ++ ([46] : Str)).length + ((((repS ([48] : Str) (max 0 (IntKind.i64.wrap ((IntKind.i64.wrap (1 - x1.exp)) - ((itoaS (max x1.mant (IntKind.i64.wrap (0 - x1.mant)))).length : Int))))) ++ (itoaS (max x1.mant (IntKind.i64.wrap (0 - x1.mant))))).drop (IntKind.i64.wrap ((((repS ([48] : Str) (max 0 (IntKind.i64.wrap ((IntKind.i64.wrap (1 - x1.exp)) - ((itoaS (max x1.mant (IntKind.i64.wrap (0 - x1.mant)))).length : Int))))) ++ (itoaS (max x1.mant (IntKind.i64.wrap (0 - x1.mant))))).length : Int) + x1.exp)).toNat).take ((((repS ([48] : Str) (max 0 (IntKind.i64.wrap ((IntKind.i64.wrap (1 - x1.exp)) - ((itoaS (max x1.mant (IntKind.i64.wrap (0 - x1.mant)))).length : Int))))) ++ (itoaS (max x1.mant (IntKind.i64.wrap (0 - x1.mant))))).length : Int).toNat - (IntKind.i64.wrap ((((repS ([48] : Str) (max 0 (IntKind.i64.wrap ((IntKind.i64.wrap (1 - x1.exp)) - ((itoaS (max x1.mant (IntKind.i64.wrap (0 - x1.mant)))).length : Int))))) ++ (itoaS (max x1.mant (IntKind.i64.wrap (0 - x1.mant))))).length : Int) + x1.exp)).toNat)).length ≤ 9223372036854775807)) (strings_Builder_WriteString_df1e ((((((repS ([48] : Str) (max 0 (IntKind.i64.wrap ((IntKind.i64.wrap (1 - x1.exp)) - ((itoaS (max x1.mant (IntKind.i64.wrap (0 - x1.mant)))).length : Int))))) ++ (itoaS (max x1.mant (IntKind.i64.wrap (0 - x1.mant))))).drop 0).take ((IntKind.i64.wrap ((((repS ([48] : Str) (max 0 (IntKind.i64.wrap ((IntKind.i64.wrap (1 - x1.exp)) - ((itoaS (max x1.mant (IntKind.i64.wrap (0 - x1.mant)))).length : Int))))) ++ (itoaS (max x1.mant (IntKind.i64.wrap (0 - x1.mant))))).length : Int) + x1.exp)).toNat - 0)) ++ ([46] : Str)) ++ ((((repS ([48] : Str) (max 0 (IntKind.i64.wrap ((IntKind.i64.wrap (1 - x1.exp)) - ((itoaS (max x1.mant (IntKind.i64.wrap (0 - x1.mant)))).length : Int))))) ++ (itoaS (max x1.mant (IntKind.i64.wrap (0 - x1.mant))))).drop (IntKind.i64.wrap ((((repS ([48] : Str) (max 0 (IntKind.i64.wrap ((IntKind.i64.wrap (1 - x1.exp)) - ((itoaS (max x1.mant (IntKind.i64.wrap (0 - x1.mant)))).length : Int))))) ++ (itoaS (max x1.mant (IntKind.i64.wrap (0 - x1.mant))))).length : Int) + x1.exp)).toNat).take ((((repS ([48] : Str) (max 0 (IntKind.i64.wrap ((IntKind.i64.wrap (1 - x1.exp)) - ((itoaS (max x1.mant (IntKind.i64.wrap (0 - x1.mant)))).length : Int))))) ++ (itoaS (max x1.mant (IntKind.i64.wrap (0 - x1.mant))))).length : Int).toNat - (IntKind.i64.wrap ((((repS ([48] : Str) (max 0 (IntKind.i64.wrap ((IntKind.i64.wrap (1 - x1.exp)) - ((itoaS (max x1.mant (IntKind.i64.wrap (0 - x1.mant)))).length : Int))))) ++ (itoaS (max x1.mant (IntKind.i64.wrap (0 - x1.mant))))).length : Int) + x1.exp)).toNat))) y3 (fun y6 y7 => k0 (bstr y7))))))))))))) else (bif (decide (x1.exp ≥ (0 : Int))) then (chk (decide (0 ≤ x1.exp) && decide ((([48] : Str).length : Int) * x1.exp ≤ 140737488355328)) (chk (decide ((itoaS (max x1.mant (IntKind.i64.wrap (0 - x1.mant)))).length + (repS ([48] : Str) x1.exp).length ≤ 9223372036854775807)) (strings_Builder_WriteString_fb8e ((itoaS (max x1.mant (IntKind.i64.wrap (0 - x1.mant)))) ++ (repS ([48] : Str) x1.exp)) (fun y8 y9 => k0 (bstr y9))))) else (chk (decide (0 ≤ (max 0 (IntKind.i64.wrap ((IntKind.i64.wrap (1 - x1.exp)) - ((itoaS (max x1.mant (IntKind.i64.wrap (0 - x1.mant)))).length : Int))))) && decide ((([48] : Str).length : Int) * (max 0 (IntKind.i64.wrap ((IntKind.i64.wrap (1 - x1.exp)) - ((itoaS (max x1.mant (IntKind.i64.wrap (0 - x1.mant)))).length : Int)))) ≤ 140737488355328)) (chk (decide ((repS ([48] : Str) (max 0 (IntKind.i64.wrap ((IntKind.i64.wrap (1 - x1.exp)) - ((itoaS (max x1.mant (IntKind.i64.wrap (0 - x1.mant)))).length : Int))))).length + (itoaS (max x1.mant (IntKind.i64.wrap (0 - x1.mant)))).length ≤ 9223372036854775807)) (chk (decide ((0 : Int) ≤ (IntKind.i64.wrap ((((repS ([48] : Str) (max 0 (IntKind.i64.wrap ((IntKind.i64.wrap (1 - x1.exp)) - ((itoaS (max x1.mant (IntKind.i64.wrap (0 - x1.mant)))).length : Int))))) ++ (itoaS (max x1.mant (IntKind.i64.wrap (0 - x1.mant))))).length : Int) + x1.exp))) && decide ((IntKind.i64.wrap ((((repS ([48] : Str) (max 0 (IntKind.i64.wrap ((IntKind.i64.wrap (1 - x1.exp)) - ((itoaS (max x1.mant (IntKind.i64.wrap (0 - x1.mant)))).length : Int))))) ++ (itoaS (max x1.mant (IntKind.i64.wrap (0 - x1.mant))))).length : Int) + x1.exp)) ≤ ((repS ([48] : Str) (max 0 (IntKind.i64.wrap ((IntKind.i64.wrap (1 - x1.exp)) - ((itoaS (max x1.mant (IntKind.i64.wrap (0 - x1.mant)))).length : Int))))) ++ (itoaS (max x1.mant (IntKind.i64.wrap (0 - x1.mant))))).length)) (chk (decide ((0 : Int) ≤ (IntKind.i64.wrap ((((repS ([48] : Str) (max 0 (IntKind.i64.wrap ((IntKind.i64.wrap (1 - x1.exp)) - ((itoaS (max x1.mant (IntKind.i64.wrap (0 - x1.mant)))).length : Int))))) ++ (itoaS (max x1.mant (IntKind.i64.wrap (0 - x1.mant))))).length : Int) + x1.exp)))) (chk (decide (((((repS ([48] : Str) (max 0 (IntKind.i64.wrap ((IntKind.i64.wrap (1 - x1.exp)) - ((itoaS (max x1.mant (IntKind.i64.wrap (0 - x1.mant)))).length : Int))))) ++ (itoaS (max x1.mant (IntKind.i64.wrap (0 - x1.mant))))).drop 0).take ((IntKind.i64.wrap ((((repS ([48] : Str) (max 0 (IntKind.i64.wrap ((IntKind.i64.wrap (1 - x1.exp)) - ((itoaS (max x1.mant (IntKind.i64.wrap (0 - x1.mant)))).length : Int))))) ++ (itoaS (max x1.mant (IntKind.i64.wrap (0 - x1.mant))))).length : Int) + x1.exp)).toNat - 0)).length + 1 ≤ 9223372036854775807)) (chk (decide ((0 : Int) ≤ (((repS ([48] : Str) (max 0 (IntKind.i64.wrap ((IntKind.i64.wrap (1 - x1.exp)) - ((itoaS (max x1.mant (IntKind.i64.wrap (0 - x1.mant)))).length : Int))))) ++ (itoaS (max x1.mant (IntKind.i64.wrap (0 - x1.mant))))).length : Int)) && decide ((((repS ([48] : Str) (max 0 (IntKind.i64.wrap ((IntKind.i64.wrap (1 - x1.exp)) - ((itoaS (max x1.mant (IntKind.i64.wrap (0 - x1.mant)))).length : Int))))) ++ (itoaS (max x1.mant (IntKind.i64.wrap (0 - x1.mant))))).length : Int) ≤ ((repS ([48] : Str) (max 0 (IntKind.i64.wrap ((IntKind.i64.wrap (1 - x1.exp)) - ((itoaS (max x1.mant (IntKind.i64.wrap (0 - x1.mant)))).length : Int))))) ++ (itoaS (max x1.mant (IntKind.i64.wrap (0 - x1.mant))))).length)) (chk (decide ((0 : Int) ≤ (IntKind.i64.wrap ((((repS ([48] : Str) (max 0 (IntKind.i64.wrap ((IntKind.i64.wrap (1 - x1.exp)) - ((itoaS (max x1.mant (IntKind.i64.wrap (0 - x1.mant)))).length : Int))))) ++ (itoaS (max x1.mant (IntKind.i64.wrap (0 - x1.mant))))).length : Int) + x1.exp))) && decide ((IntKind.i64.wrap ((((repS ([48] : Str) (max 0 (IntKind.i64.wrap ((IntKind.i64.wrap (1 - x1.exp)) - ((itoaS (max x1.mant (IntKind.i64.wrap (0 - x1.mant)))).length : Int))))) ++ (itoaS (max x1.mant (IntKind.i64.wrap (0 - x1.mant))))).length : Int) + x1.exp)) ≤ (((repS ([48] : Str) (max 0 (IntKind.i64.wrap ((IntKind.i64.wrap (1 - x1.exp)) - ((itoaS (max x1.mant (IntKind.i64.wrap (0 - x1.mant)))).length : Int))))) ++ (itoaS (max x1.mant (IntKind.i64.wrap (0 - x1.mant))))).length : Int))) (chk (decide ((((((repS ([48] : Str) (max 0 (IntKind.i64.wrap ((IntKind.i64.wrap (1 - x1.exp)) - ((itoaS (max x1.mant (IntKind.i64.wrap (0 - x1.mant)))).length : Int))))) ++ (itoaS (max x1.mant (IntKind.i64.wrap (0 - x1.mant))))).drop 0).take ((IntKind.i64.wrap ((((repS ([48] : Str) (max 0 (IntKind.i64.wrap ((IntKind.i64.wrap (1 - x1.exp)) - ((itoaS (max x1.mant (IntKind.i64.wrap (0 - x1.mant)))).length : Int))))) ++ (itoaS (max x1.mant (IntKind.i64.wrap (0 - x1.mant))))).length : Int) + x1.exp)).toNat - 0)) ++ ([46] : Str)).length + ((((repS ([48] : Str) (max 0 (IntKind.i64.wrap ((IntKind.i64.wrap (1 - x1.exp)) - ((itoaS (max x1.mant (IntKind.i64.wrap (0 - x1.mant)))).length : Int))))) ++ (itoaS (max x1.mant (IntKind.i64.wrap (0 - x1.mant))))).drop (IntKind.i64.wrap ((((repS ([48] : Str) (max 0 (IntKind.i64.wrap ((IntKind.i64.wrap (1 - x1.exp)) - ((itoaS (max x1.mant (IntKind.i64.wrap (0 - x1.mant)))).length : Int))))) ++ (itoaS (max x1.mant (IntKind.i64.wrap (0 - x1.mant))))).length : Int) + x1.exp)).toNat).take ((((repS ([48] : Str) (max 0 (IntKind.i64.wrap ((IntKind.i64.wrap (1 - x1.exp)) - ((itoaS (max x1.mant (IntKind.i64.wrap (0 - x1.mant)))).length : Int))))) ++ (itoaS (max x1.mant (IntKind.i64.wrap (0 - x1.mant))))).length : Int).toNat - (IntKind.i64.wrap ((((repS ([48] : Str) (max 0 (IntKind.i64.wrap ((IntKind.i64.wrap (1 - x1.exp)) - ((itoaS (max x1.mant (IntKind.i64.wrap (0 - x1.mant)))).length : Int))))) ++ (itoaS (max x1.mant (IntKind.i64.wrap (0 - x1.mant))))).length : Int) + x1.exp)).toNat)).length ≤ 9223372036854775807)) (strings_Builder_WriteString_fb8e ((((((repS ([48] : Str) (max 0 (IntKind.i64.wrap ((IntKind.i64.wrap (1 - x1.exp)) - ((itoaS (max x1.mant (IntKind.i64.wrap (0 - x1.mant)))).length : Int))))) ++ (itoaS (max x1.mant (IntKind.i64.wrap (0 - x1.mant))))).drop 0).take ((IntKind.i64.wrap ((((repS ([48] : Str) (max 0 (IntKind.i64.wrap ((IntKind.i64.wrap (1 - x1.exp)) - ((itoaS (max x1.mant (IntKind.i64.wrap (0 - x1.mant)))).length : Int))))) ++ (itoaS (max x1.mant (IntKind.i64.wrap (0 - x1.mant))))).length : Int) + x1.exp)).toNat - 0)) ++ ([46] : Str)) ++ ((((repS ([48] : Str) (max 0 (IntKind.i64.wrap ((IntKind.i64.wrap (1 - x1.exp)) - ((itoaS (max x1.mant (IntKind.i64.wrap (0 - x1.mant)))).length : Int))))) ++ (itoaS (max x1.mant (IntKind.i64.wrap (0 - x1.mant))))).drop (IntKind.i64.wrap ((((repS ([48] : Str) (max 0 (IntKind.i64.wrap ((IntKind.i64.wrap (1 - x1.exp)) - ((itoaS (max x1.mant (IntKind.i64.wrap (0 - x1.mant)))).length : Int))))) ++ (itoaS (max x1.mant (IntKind.i64.wrap (0 - x1.mant))))).length : Int) + x1.exp)).toNat).take ((((repS ([48] : Str) (max 0 (IntKind.i64.wrap ((IntKind.i64.wrap (1 - x1.exp)) - ((itoaS (max x1.mant (IntKind.i64.wrap (0 - x1.mant)))).length : Int))))) ++ (itoaS (max x1.mant (IntKind.i64.wrap (0 - x1.mant))))).length : Int).toNat - (IntKind.i64.wrap ((((repS ([48] : Str) (max 0 (IntKind.i64.wrap ((IntKind.i64.wrap (1 - x1.exp)) - ((itoaS (max x1.mant (IntKind.i64.wrap (0 - x1.mant)))).length : Int))))) ++ (itoaS (max x1.mant (IntKind.i64.wrap (0 - x1.mant))))).length : Int) + x1.exp)).toNat))) (fun y10 y11 => k0 (bstr y11))))))))))))))
noncomputable def decimal_Print {R : Type} : decimal_Print_ty R := fun x1 k0 => decimal_Print_X decimal_Right strings_Builder_WriteByte_b66c strings_Builder_WriteString_df1e strings_Builder_WriteString_fb8e x1 k0
theorem decimal_Print_ok {R : Type} (decimal_Right : decimal_Right_ty R) (strings_Builder_WriteByte_b66c : strings_Builder_WriteByte_b66c_ty R) (strings_Builder_WriteString_df1e : strings_Builder_WriteString_df1e_ty R) (strings_Builder_WriteString_fb8e : strings_Builder_WriteString_fb8e_ty R) (x1 : Dcm) (k : V → Heap → Option R) : funK tt (decimal_Print_E R decimal_Right strings_Builder_WriteByte_b66c strings_Builder_WriteString_df1e strings_Builder_WriteString_fb8e) (decimal_Print_T R) false Tryz.f46 (codeOf Tryz.f46) [.agg [.int .i64 x1.mant, .int .i64 x1.exp]] [] k =
    decimal_Print_X decimal_Right strings_Builder_WriteByte_b66c strings_Builder_WriteString_df1e strings_Builder_WriteString_fb8e x1 (fun q0 => k (.str q0) []) := by kernel_rfl
theorem decimal_Print_loops (R : Type) : ∀ a ∈ loopsOf (codeOf Tryz.f46), LoopOk tt (decimal_Print_E R decimal_Right strings_Builder_WriteByte_b66c strings_Builder_WriteString_df1e strings_Builder_WriteString_fb8e) (decimal_Print_T R) 0 a := by
  refine loops_ok 0 (by kernel_rfl) fun i hi => ?_
  omega
theorem decimal_Print_S_ok (R : Type) (other : Yard.Spec R) (ho : Yard.Spec.Ok Tryz.prog 46 other) : Yard.Spec.Ok Tryz.prog 46 (specBy decimal_Print_p decimal_Print_q (decimal_Print_rr decimal_Print) other) :=
  specBy_ok ho (funK_sound TT mixed (decimal_Print_EOk R) (keep := false) rfl rfl rfl rfl 0 (decimal_Print_loops R)) fun (x : Pat.dens decimal_Print_p) (y : HPat.dens decimal_Print_q) k => decimal_Print_ok decimal_Right strings_Builder_WriteByte_b66c strings_Builder_WriteString_df1e strings_Builder_WriteString_fb8e (⟨x.1.1, x.1.2.1⟩ : Dcm) k

/-! ### humpyard/humpyardlaw03.Word -/
abbrev law03_Word_ty (R : Type) : Type := Raw3 → (Str → Option R) → Option R
abbrev law03_Word_p : List Pat := [.agg [.int .i64, .int .i64, .int .i64, .sl (.int .i64)]]
abbrev law03_Word_q : List HPat := []
noncomputable def law03_Word_rr {R : Type} (fn : law03_Word_ty R) : Pat.dens law03_Word_p → HPat.dens law03_Word_q → (V → Heap → Option R) → Option R := fun x y k => fn (⟨x.1.1, x.1.2.1, x.1.2.2.1, x.1.2.2.2.1⟩ : Raw3) (fun q0 => k (.str q0) [])
noncomputable def law03_Word_E (R : Type) (law02_Text : law02_Text_ty R) (quote_Quote : quote_Quote_ty R) (law01_Fit : law01_Fit_ty R) (decimal_Print : decimal_Print_ty R) (law03_pick : law03_pick_ty R) : Env R := fun i => match i with
  | 37 => some (true, (specBy law02_Text_p law02_Text_q (law02_Text_rr law02_Text) specNo))
  | 26 => some (true, (specBy quote_Quote_p quote_Quote_q (quote_Quote_rr quote_Quote) specNo))
  | 28 => some (true, (specBy law01_Fit_p law01_Fit_q (law01_Fit_rr law01_Fit) specNo))
  | 46 => some (true, (specBy decimal_Print_p decimal_Print_q (decimal_Print_rr decimal_Print) specNo))
  | 27 => some (true, (specBy law03_pick_p law03_pick_q (law03_pick_rr law03_pick) specNo))
  | _ => none
theorem law03_Word_EOk (R : Type) : EOk Tryz.prog (law03_Word_E R law02_Text quote_Quote law01_Fit decimal_Print law03_pick) := by
  intro i b sp h
  unfold law03_Word_E at h
  split at h
  · cases h; exact ⟨(law02_Text_S_ok R _ (specNo_ok _)), fun h => nomatch h⟩
  · cases h; exact ⟨(quote_Quote_S_ok R _ (specNo_ok _)), fun h => nomatch h⟩
  · cases h; exact ⟨(law01_Fit_S_ok R _ (specNo_ok _)), fun h => nomatch h⟩
  · cases h; exact ⟨(decimal_Print_S_ok R _ (specNo_ok _)), fun h => nomatch h⟩
  · cases h; exact ⟨(law03_pick_S_ok R _ (specNo_ok _)), fun h => nomatch h⟩
  · cases h

noncomputable def law03_Word_T (R : Type) : Nat → Option (Hint × LSpec R) := fun i => match i with
  | _ => none

noncomputable def law03_Word_X {R : Type} (law02_Text : law02_Text_ty R) (quote_Quote : quote_Quote_ty R) (law01_Fit : law01_Fit_ty R) (decimal_Print : decimal_Print_ty R) (law03_pick : law03_pick_ty R) (x1 : Raw3) (k0 : Str → Option R) : Option R :=
  law03_pick x1.kind 4 (fun y2 => bif (y2 == 0) then (law03_pick x1.mant 6 (fun y3 => chk (decide ((0 : Int) ≤ y3) && decide (y3 < (6 : Int))) (k0 (([([123] : Str), ([125] : Str), ([91] : Str), ([93] : Str), ([44] : Str), ([58] : Str)] : List Str).getD y3.toNat (Ty.dflt .str))))) else (bif (y2 == 1) then (chk (decide ((0 : Int) ≤ (min (x1.text.length : Int) 30)) && decide ((min (x1.text.length : Int) 30) ≤ x1.text.length)) (chk (decide ((0 : Int) ≤ (min (x1.text.length : Int) 30))) (law02_Text ((x1.text.drop 0).take ((min (x1.text.length : Int) 30).toNat - 0)) (fun y4 => quote_Quote y4 (fun y5 y6 => k0 y5))))) else (bif (y2 == 2) then (law01_Fit x1.mant x1.exp (fun y7 => decimal_Print y7 (fun y8 => k0 y8))) else (law03_pick x1.mant 3 (fun y9 => chk (decide ((0 : Int) ≤ y9) && decide (y9 < (3 : Int))) (k0 (([([116, 114, 117, 101] : Str), ([102, 97, 108, 115, 101] : Str), ([110, 117, 108, 108] : Str)] : List Str).getD y9.toNat (Ty.dflt .str))))))))
noncomputable def law03_Word {R : Type} : law03_Word_ty R := fun x1 k0 => law03_Word_X law02_Text quote_Quote law01_Fit decimal_Print law03_pick x1 k0
theorem law03_Word_ok {R : Type} (law02_Text : law02_Text_ty R) (quote_Quote : quote_Quote_ty R) (law01_Fit : law01_Fit_ty R) (decimal_Print : decimal_Print_ty R) (law03_pick : law03_pick_ty R) (x1 : Raw3) (k : V → Heap → Option R) : funK tt (law03_Word_E R law02_Text quote_Quote law01_Fit decimal_Print law03_pick) (law03_Word_T R) false Tryz.f24 (codeOf Tryz.f24) [.agg [.int .i64 x1.kind, .int .i64 x1.mant, .int .i64 x1.exp, .sl (.int .i64) x1.text .no]] [] k =
    law03_Word_X law02_Text quote_Quote law01_Fit decimal_Print law03_pick x1 (fun q0 => k (.str q0) []) := by kernel_rfl
theorem law03_Word_loops (R : Type) : ∀ a ∈ loopsOf (codeOf Tryz.f24), LoopOk tt (law03_Word_E R law02_Text quote_Quote law01_Fit decimal_Print law03_pick) (law03_Word_T R) 0 a := by
  refine loops_ok 0 (by kernel_rfl) fun i hi => ?_
  omega
theorem law03_Word_S_ok (R : Type) (other : Yard.Spec R) (ho : Yard.Spec.Ok Tryz.prog 24 other) : Yard.Spec.Ok Tryz.prog 24 (specBy law03_Word_p law03_Word_q (law03_Word_rr law03_Word) other) :=
  specBy_ok ho (funK_sound TT mixed (law03_Word_EOk R) (keep := false) rfl rfl rfl rfl 0 (law03_Word_loops R)) fun (x : Pat.dens law03_Word_p) (y : HPat.dens law03_Word_q) k => law03_Word_ok law02_Text quote_Quote law01_Fit decimal_Print law03_pick (⟨x.1.1, x.1.2.1, x.1.2.2.1, x.1.2.2.2.1⟩ : Raw3) k

end Go.Proofs.YtmlkkgfenfdndaaGreatDoor

set_option linter.unusedVariables false
set_option maxRecDepth 100000
namespace Go.Proofs.YtmlkkgfenfdndaaGreatDoor
open Go Go.Yard Go.Lib

end Go.Proofs.YtmlkkgfenfdndaaGreatDoor

set_option linter.unusedVariables false
set_option maxRecDepth 100000
namespace Go.Proofs.YtmlkkgfenfdndaaGreatDoor
open Go Go.Yard Go.Lib

def plainP (s : Str) : Option (Nat × Str) :=
  if s = [] then none else if (decodeL s).1 = 65533 ∧ (decodeL s).2 = 1 then none else if (decodeL s).1 < 32 then none else some ((decodeL s).1, s.drop (decodeL s).2)

def hexv (b : UInt8) : Option Nat :=
  let n := b.toNat
  if 48 ≤ n ∧ n ≤ 57 then some (n - 48) else if 65 ≤ n ∧ n ≤ 70 then some (n - 55) else if 97 ≤ n ∧ n ≤ 102 then some (n - 87) else none
def hexN : Str → Nat → Option Nat
  | [], v => some v
  | b :: t, v => match hexv b with | some d => hexN t (16 * v + d) | none => none

end Go.Proofs.YtmlkkgfenfdndaaGreatDoor

set_option linter.unusedVariables false
set_option maxRecDepth 100000
namespace Go.Proofs.YtmlkkgfenfdndaaGreatDoor
open Go Go.Yard Go.Lib

end Go.Proofs.YtmlkkgfenfdndaaGreatDoor

set_option linter.unusedVariables false
set_option maxRecDepth 100000
namespace Go.Proofs.YtmlkkgfenfdndaaGreatDoor
open Go Go.Yard Go.Lib

def unitP (s : Str) : Option (Nat × Str) := if s.length < 4 then none else match hexN (s.take 4) 0 with | some v => some (v, s.drop 4) | none => none
def longP (s : Str) : Option (Nat × Str) :=
  match unitP s with
  | none => none
  | some (v, r) =>
    if v < 55296 ∨ 57344 ≤ v then some (v, r) else if 56320 ≤ v then none
    else if ([92, 117] : Str).isPrefixOf r then
      match unitP (r.drop 2) with
      | none => none
      | some (w, r2) => if 56320 ≤ w ∧ w < 57344 then some (65536 + (v - 55296) * 1024 + (w - 56320), r2) else none
    else none

def escP : Str → Option (Nat × Str)
  | [] => none
  | b :: t =>
    if b.toNat = 34 ∨ b.toNat = 92 ∨ b.toNat = 47 then some (b.toNat, t) else if b.toNat = 98 then some (8, t) else if b.toNat = 102 then some (12, t) else if b.toNat = 110 then some (10, t)
    else if b.toNat = 114 then some (13, t) else if b.toNat = 116 then some (9, t) else if b.toNat = 117 then longP t else none

end Go.Proofs.YtmlkkgfenfdndaaGreatDoor

set_option linter.unusedVariables false
set_option maxRecDepth 100000
namespace Go.Proofs.YtmlkkgfenfdndaaGreatDoor
open Go Go.Yard Go.Lib

end Go.Proofs.YtmlkkgfenfdndaaGreatDoor

set_option linter.unusedVariables false
set_option maxRecDepth 100000
namespace Go.Proofs.YtmlkkgfenfdndaaGreatDoor
open Go Go.Yard Go.Lib

def stepU (s : Str) : Option (Nat × Str) := if ([92] : Str).isPrefixOf s then escP (s.drop 1) else plainP s
def uq : Nat → Str → Str → Option (Str × Str)
  | 0, _, _ => none
  | n + 1, s, o => if ([34] : Str).isPrefixOf s then some (o, s.drop 1) else match stepU s with | none => none | some (c, r) => uq n r (o ++ enc c)

def uqS (s : Str) : Option (Str × Str) := if ([34] : Str).isPrefixOf s then uq (s.length + 1) (s.drop 1) [] else none

end Go.Proofs.YtmlkkgfenfdndaaGreatDoor


set_option linter.unusedVariables false
set_option maxRecDepth 100000
namespace Go.Proofs.YtmlkkgfenfdndaaGreatDoor
open Go Go.Yard Go.Lib

end Go.Proofs.YtmlkkgfenfdndaaGreatDoor


set_option linter.unusedVariables false
set_option maxRecDepth 100000
namespace Go.Proofs.YtmlkkgfenfdndaaGreatDoor
open Go Go.Yard Go.Lib

end Go.Proofs.YtmlkkgfenfdndaaGreatDoor

/-
  Functions of the program as pure Lean functions, and the ties; printed by wip/tools/emit.py.
-/
set_option maxRecDepth 100000
set_option linter.unusedVariables false
namespace Go.Proofs.YtmlkkgfenfdndaaGreatDoor
open Go Go.Yard

end Go.Proofs.YtmlkkgfenfdndaaGreatDoor

/-
  Functions of the program as pure Lean functions, and the ties; printed by wip/tools/emit.py.
-/
set_option maxRecDepth 100000
set_option linter.unusedVariables false
namespace Go.Proofs.YtmlkkgfenfdndaaGreatDoor
open Go Go.Yard

end Go.Proofs.YtmlkkgfenfdndaaGreatDoor

/-
  Functions of the program as pure Lean functions, and the ties; printed by wip/tools/emit.py.
-/
set_option maxRecDepth 100000
set_option linter.unusedVariables false
namespace Go.Proofs.YtmlkkgfenfdndaaGreatDoor
open Go Go.Yard

end Go.Proofs.YtmlkkgfenfdndaaGreatDoor

set_option linter.unusedVariables false
set_option maxRecDepth 100000
namespace Go.Proofs.YtmlkkgfenfdndaaGreatDoor
open Go Go.Yard Go.Lib

end Go.Proofs.YtmlkkgfenfdndaaGreatDoor

set_option linter.unusedVariables false
set_option maxRecDepth 100000
namespace Go.Proofs.YtmlkkgfenfdndaaGreatDoor
open Go Go.Yard Go.Lib

end Go.Proofs.YtmlkkgfenfdndaaGreatDoor

/-
  Functions of the program as pure Lean functions, and the ties; printed by wip/tools/emit.py.
-/
set_option maxRecDepth 100000
set_option linter.unusedVariables false
namespace Go.Proofs.YtmlkkgfenfdndaaGreatDoor
open Go Go.Yard

end Go.Proofs.YtmlkkgfenfdndaaGreatDoor

set_option linter.unusedVariables false
set_option maxRecDepth 100000
namespace Go.Proofs.YtmlkkgfenfdndaaGreatDoor
open Go Go.Yard Go.Lib

end Go.Proofs.YtmlkkgfenfdndaaGreatDoor

set_option linter.unusedVariables false
set_option maxRecDepth 100000
namespace Go.Proofs.YtmlkkgfenfdndaaGreatDoor
open Go Go.Yard Go.Lib

end Go.Proofs.YtmlkkgfenfdndaaGreatDoor

set_option linter.unusedVariables false
set_option maxRecDepth 100000
namespace Go.Proofs.YtmlkkgfenfdndaaGreatDoor
open Go Go.Yard Go.Lib

end Go.Proofs.YtmlkkgfenfdndaaGreatDoor


set_option linter.unusedVariables false
set_option maxRecDepth 100000
namespace Go.Proofs.YtmlkkgfenfdndaaGreatDoor
open Go Go.Yard Go.Lib

end Go.Proofs.YtmlkkgfenfdndaaGreatDoor

set_option linter.unusedVariables false
set_option maxRecDepth 100000
namespace Go.Proofs.YtmlkkgfenfdndaaGreatDoor
open Go Go.Yard Go.Lib

def signP (signs s : Str) : Nat × Str := match s with | [] => (0, []) | b :: t => if signs.contains b then (b.toNat, t) else (0, b :: t)

def digS : Str := [48, 49, 50, 51, 52, 53, 54, 55, 56, 57]
end Go.Proofs.YtmlkkgfenfdndaaGreatDoor

set_option linter.unusedVariables false
set_option maxRecDepth 100000
namespace Go.Proofs.YtmlkkgfenfdndaaGreatDoor
open Go Go.Yard Go.Lib

end Go.Proofs.YtmlkkgfenfdndaaGreatDoor

set_option linter.unusedVariables false
set_option maxRecDepth 100000
namespace Go.Proofs.YtmlkkgfenfdndaaGreatDoor
open Go Go.Yard Go.Lib

abbrev isD (b : UInt8) : Bool := digS.contains b
abbrev takeD (s : Str) : Str := s.takeWhile isD
abbrev dropD (s : Str) : Str := s.dropWhile isD

def valD : Str → Nat → Nat
  | [], v => v
  | b :: s, v => valD s (10 * v + (b.toNat - 48))
def expP (X : Str) : Int × Bool × Str :=
  let q := signP [43, 45] X
  let v : Int := min (valD (takeD q.2) 0 : Int) 1000000
  (if q.1 = 45 then -v else v, !(takeD q.2 == []), dropD q.2)

def finD (neg : Bool) (all : Str) (x : Int) : Dcm × Bool :=
  if trimR (trimL all [48]) [48] = [] then (⟨0, 0⟩, true)
  else mkD (if neg then -(valD (trimR (trimL all [48]) [48]) 0 : Int) else (valD (trimR (trimL all [48]) [48]) 0 : Int)) (x + (((trimL all [48]).length : Int) - ((trimR (trimL all [48]) [48]).length : Int)))

def noD : Dcm × Bool := (⟨0, 0⟩, false)
def tailD (neg : Bool) (all : Str) (x : Int) (X : Str) : Dcm × Bool :=
  if (signP [101, 69] X).1 = 0 then (if (signP [101, 69] X).2 = [] then finD neg all x else noD)
  else if (expP (signP [101, 69] X).2).2.1 = false then noD
  else if (expP (signP [101, 69] X).2).2.2 = [] then finD neg all (x + (expP (signP [101, 69] X).2).1) else noD

def parseS (s : Str) : Dcm × Bool :=
  let q := signP [45] s
  let I := takeD q.2
  let r := dropD q.2
  if 400 < s.length then noD else if I = [] then noD else if 1 < I.length ∧ (I.getD 0 0).toNat = 48 then noD
  else if (signP [46] r).1 = 0 then tailD (q.1 != 0) I 0 (signP [46] r).2
  else if takeD (signP [46] r).2 = [] then noD
  else tailD (q.1 != 0) (I ++ takeD (signP [46] r).2) (-((takeD (signP [46] r).2).length : Int)) (dropD (signP [46] r).2)

end Go.Proofs.YtmlkkgfenfdndaaGreatDoor

set_option linter.unusedVariables false
set_option maxRecDepth 100000
namespace Go.Proofs.YtmlkkgfenfdndaaGreatDoor
open Go Go.Yard Go.Lib

def numS : Str := [48, 49, 50, 51, 52, 53, 54, 55, 56, 57, 43, 45, 46, 101, 69]
def letS : Str := [97, 98, 99, 100, 101, 102, 103, 104, 105, 106, 107, 108, 109, 110, 111, 112, 113, 114, 115, 116, 117, 118, 119, 120, 121, 122]
def blaS : Str := [32, 9, 10, 13]
def sigS : Str := [123, 125, 91, 93, 44, 58]
def numB (b : UInt8) : Bool := numS.contains b
def letB (b : UInt8) : Bool := letS.contains b
def blaB (b : UInt8) : Bool := blaS.contains b
def sigB (b : UInt8) : Bool := sigS.contains b
def trueS : Str := [116, 114, 117, 101]
def falseS : Str := [102, 97, 108, 115, 101]
def nullS : Str := [110, 117, 108, 108]

def tokS (s : Str) : Option (Token × Str) :=
  match s with
  | [] => none
  | c :: t =>
    if c.toNat = 45 ∨ (48 ≤ c.toNat ∧ c.toNat ≤ 57) then
      (if (parseS (s.takeWhile numB)).2 then some (⟨3, s.takeWhile numB, (parseS (s.takeWhile numB)).1, 0⟩, s.dropWhile numB) else none)
    else if c.toNat = 34 then (match uqS s with | some (o, r) => some (⟨2, o, ⟨0, 0⟩, 0⟩, r) | none => none)
    else if sigB c then some (⟨1, [c], ⟨0, 0⟩, 0⟩, t)
    else if s.takeWhile letB = trueS ∨ s.takeWhile letB = falseS ∨ s.takeWhile letB = nullS then some (⟨4, s.takeWhile letB, ⟨0, 0⟩, 0⟩, s.dropWhile letB)
    else none

def stopR (r : Str) : Prop := r = [] ∨ ∃ b u, r = b :: u ∧ numB b = false ∧ letB b = false
def Word (w : Str) (t : Token) : Prop := (∃ c u, w = c :: u ∧ blaB c = false) ∧ ∀ r, stopR r → tokS (w ++ r) = some (t, r)

end Go.Proofs.YtmlkkgfenfdndaaGreatDoor

set_option linter.unusedVariables false
set_option maxRecDepth 100000
namespace Go.Proofs.YtmlkkgfenfdndaaGreatDoor
open Go Go.Yard Go.Lib

end Go.Proofs.YtmlkkgfenfdndaaGreatDoor

/-
  Functions of the program as pure Lean functions, and the ties; printed by wip/tools/emit.py.
-/
set_option maxRecDepth 100000
set_option linter.unusedVariables false
namespace Go.Proofs.YtmlkkgfenfdndaaGreatDoor
open Go Go.Yard

end Go.Proofs.YtmlkkgfenfdndaaGreatDoor

set_option linter.unusedVariables false
set_option maxRecDepth 100000
namespace Go.Proofs.YtmlkkgfenfdndaaGreatDoor
open Go Go.Yard Go.Lib

structure RawW (R : Type) (x : Raw3) (p : Str × Token) : Prop where
  word : Word p.1 p.2
  len : p.1.length ≤ 182
  run : ∀ k : Str → Option R, law03_Word x k = k p.1
  kind : ∃ q : Int, p.2.kind = 1 + q ∧ 0 ≤ q ∧ q < 4 ∧ ∀ k : Int → Option R, law03_pick x.kind 4 k = k q
  text : p.2.kind = 2 → ∀ k : Str → Bool → Option R, quote_Quote p.2.text k = k p.1 true
  other : p.2.kind ≠ 2 → p.2.text = p.1
  num : p.2.kind = 3 → ∀ k : Dcm → Option R, law01_Fit x.mant x.exp k = k p.2.num

end Go.Proofs.YtmlkkgfenfdndaaGreatDoor

/-
  Functions of the program as pure Lean functions, and the ties; printed by wip/tools/emit.py.
-/
set_option maxRecDepth 100000
set_option linter.unusedVariables false
namespace Go.Proofs.YtmlkkgfenfdndaaGreatDoor
open Go Go.Yard

/-! ### (*humpyard/json.parser).fail -/
abbrev json_parser_fail_67a1_ty (R : Type) : Type := Int → (List Token) → Int → ((List Token) → Int → Option R) → Option R
abbrev json_parser_fail_67a1_p : List Pat := [.leaf (.ptr 0 0), .leaf (.int .i64)]
abbrev json_parser_fail_67a1_q : List HPat := [.cells [.sl .token, .int .i64]]
noncomputable def json_parser_fail_67a1_rr {R : Type} (fn : json_parser_fail_67a1_ty R) : Pat.dens json_parser_fail_67a1_p → HPat.dens json_parser_fail_67a1_q → (V → Heap → Option R) → Option R := fun x y k => fn x.2.1 y.1.1 y.1.2.1 (fun q0 q1 => k (.tuple []) [.cells [.sl .token q0 .no, .int .i64 q1]])
noncomputable def json_parser_fail_67a1_E (R : Type) : Env R := fun i => match i with
  | _ => none
theorem json_parser_fail_67a1_EOk (R : Type) : EOk Tryz.prog (json_parser_fail_67a1_E R) := by
  intro i b sp h
  unfold json_parser_fail_67a1_E at h
  split at h
  · cases h

noncomputable def json_parser_fail_67a1_T (R : Type) : Nat → Option (Hint × LSpec R) := fun i => match i with
  | _ => none

noncomputable def json_parser_fail_67a1_X {R : Type} (x1 : Int) (x2 : List Token) (x3 : Int) (k0 : (List Token) → Int → Option R) : Option R :=
  bif (x3 == 0) then (k0 x2 x1) else (k0 x2 x3)
noncomputable def json_parser_fail_67a1 {R : Type} : json_parser_fail_67a1_ty R := fun x1 x2 x3 k0 => json_parser_fail_67a1_X x1 x2 x3 k0
theorem json_parser_fail_67a1_ok {R : Type} (x1 : Int) (x2 : List Token) (x3 : Int) (k : V → Heap → Option R) : funK (tt.mode [.json]) (json_parser_fail_67a1_E R) (json_parser_fail_67a1_T R) false Tryz.f43 (codeOf Tryz.f43) [.ptr 0 0, .int .i64 x1] [.cells [.sl .token x2 .no, .int .i64 x3]] k =
    json_parser_fail_67a1_X x1 x2 x3 (fun q0 q1 => k (.tuple []) [.cells [.sl .token q0 .no, .int .i64 q1]]) := by kernel_rfl
theorem json_parser_fail_67a1_loops (R : Type) : ∀ a ∈ loopsOf (codeOf Tryz.f43), LoopOk (tt.mode [.json]) (json_parser_fail_67a1_E R) (json_parser_fail_67a1_T R) 1 a := by
  refine loops_ok 0 (by kernel_rfl) fun i hi => ?_
  omega
theorem json_parser_fail_67a1_S_ok (R : Type) (other : Yard.Spec R) (ho : Yard.Spec.Ok Tryz.prog 43 other) : Yard.Spec.Ok Tryz.prog 43 (specBy json_parser_fail_67a1_p json_parser_fail_67a1_q (json_parser_fail_67a1_rr json_parser_fail_67a1) other) :=
  specBy_ok ho (funK_sound (TT.mode [.json]) mixed (json_parser_fail_67a1_EOk R) (keep := false) rfl rfl rfl rfl 1 (json_parser_fail_67a1_loops R)) fun (x : Pat.dens json_parser_fail_67a1_p) (y : HPat.dens json_parser_fail_67a1_q) k => json_parser_fail_67a1_ok x.2.1 y.1.1 y.1.2.1 k

/-! ### (*humpyard/json.parser).sign -/
abbrev json_parser_sign_b8e2_ty (R : Type) : Type := Str → (List Token) → Int → (Bool → (List Token) → Int → Option R) → Option R
abbrev json_parser_sign_b8e2_p : List Pat := [.leaf (.ptr 0 0), .leaf (.str)]
abbrev json_parser_sign_b8e2_q : List HPat := [.cells [.sl .token, .int .i64]]
noncomputable def json_parser_sign_b8e2_rr {R : Type} (fn : json_parser_sign_b8e2_ty R) : Pat.dens json_parser_sign_b8e2_p → HPat.dens json_parser_sign_b8e2_q → (V → Heap → Option R) → Option R := fun x y k => fn x.2.1 y.1.1 y.1.2.1 (fun q0 q1 q2 => k (.bool q0) [.cells [.sl .token q1 .no, .int .i64 q2]])
noncomputable def json_parser_sign_b8e2_E (R : Type) : Env R := fun i => match i with
  | _ => none
theorem json_parser_sign_b8e2_EOk (R : Type) : EOk Tryz.prog (json_parser_sign_b8e2_E R) := by
  intro i b sp h
  unfold json_parser_sign_b8e2_E at h
  split at h
  · cases h

noncomputable def json_parser_sign_b8e2_T (R : Type) : Nat → Option (Hint × LSpec R) := fun i => match i with
  | _ => none

noncomputable def json_parser_sign_b8e2_X {R : Type} (x1 : Str) (x2 : List Token) (x3 : Int) (k0 : Bool → (List Token) → Int → Option R) : Option R :=
  chk (decide ((0 : Int) < x2.length)) (bif (x3 != 0) then (k0 false x2 x3) else (bif ((x2.getD 0 (Ty.dflt .token)).kind != 1) then (k0 false x2 x3) else (bif (!((x2.getD 0 (Ty.dflt .token)).text == x1)) then (k0 false x2 x3) else (chk (decide ((1 : Int) ≤ x2.length)) (k0 true (x2.drop 1) x3)))))
noncomputable def json_parser_sign_b8e2 {R : Type} : json_parser_sign_b8e2_ty R := fun x1 x2 x3 k0 => json_parser_sign_b8e2_X x1 x2 x3 k0
theorem json_parser_sign_b8e2_ok {R : Type} (x1 : Str) (x2 : List Token) (x3 : Int) (k : V → Heap → Option R) : funK (tt.mode [.json]) (json_parser_sign_b8e2_E R) (json_parser_sign_b8e2_T R) false Tryz.f122 (codeOf Tryz.f122) [.ptr 0 0, .str x1] [.cells [.sl .token x2 .no, .int .i64 x3]] k =
    json_parser_sign_b8e2_X x1 x2 x3 (fun q0 q1 q2 => k (.bool q0) [.cells [.sl .token q1 .no, .int .i64 q2]]) := by kernel_rfl
theorem json_parser_sign_b8e2_loops (R : Type) : ∀ a ∈ loopsOf (codeOf Tryz.f122), LoopOk (tt.mode [.json]) (json_parser_sign_b8e2_E R) (json_parser_sign_b8e2_T R) 1 a := by
  refine loops_ok 0 (by kernel_rfl) fun i hi => ?_
  omega
theorem json_parser_sign_b8e2_S_ok (R : Type) (other : Yard.Spec R) (ho : Yard.Spec.Ok Tryz.prog 122 other) : Yard.Spec.Ok Tryz.prog 122 (specBy json_parser_sign_b8e2_p json_parser_sign_b8e2_q (json_parser_sign_b8e2_rr json_parser_sign_b8e2) other) :=
  specBy_ok ho (funK_sound (TT.mode [.json]) mixed (json_parser_sign_b8e2_EOk R) (keep := false) rfl rfl rfl rfl 1 (json_parser_sign_b8e2_loops R)) fun (x : Pat.dens json_parser_sign_b8e2_p) (y : HPat.dens json_parser_sign_b8e2_q) k => json_parser_sign_b8e2_ok x.2.1 y.1.1 y.1.2.1 k

/-! ### slices.Index[[]string,string] -/
abbrev slices_Index_stringstring_ty (R : Type) : Type := (List Str) → Str → (Int → Option R) → Option R
abbrev slices_Index_stringstring_p : List Pat := [.leaf (.sl .str), .leaf (.str)]
abbrev slices_Index_stringstring_q : List HPat := []
noncomputable def slices_Index_stringstring_rr {R : Type} (fn : slices_Index_stringstring_ty R) : Pat.dens slices_Index_stringstring_p → HPat.dens slices_Index_stringstring_q → (V → Heap → Option R) → Option R := fun x y k => fn x.1 x.2.1 (fun q0 => k (.int .i64 q0) [])
abbrev slices_Index_stringstring_2_0_ty (R : Type) : Type := Nat → (List Str) → Str → Int → Int → (Option R) → (Int → Option R) → Option R
noncomputable def slices_Index_stringstring_E (R : Type) : Env R := fun i => match i with
  | _ => none
theorem slices_Index_stringstring_EOk (R : Type) : EOk Tryz.prog (slices_Index_stringstring_E R) := by
  intro i b sp h
  unfold slices_Index_stringstring_E at h
  split at h
  · cases h

noncomputable def slices_Index_stringstring_2_0_B {R : Type} (rec' : (List Str) → Str → Int → Int → Option R) (x3 : List Str) (x4 : Str) (x5 : Int) (x6 : Int) (e0 : Option R) (e1 : Int → Option R) : Option R :=
  bif (decide (x6 < x5)) then (chk (decide ((0 : Int) ≤ x6) && decide (x6 < x3.length)) (bif (x4 == (x3.getD x6.toNat (Ty.dflt .str))) then (e1 x6) else (rec' x3 x4 x5 (IntKind.i64.wrap (x6 + 1))))) else (e0)
noncomputable def slices_Index_stringstring_2_0_L {R : Type} : slices_Index_stringstring_2_0_ty R
  | 0, _, _, _, _, _, _ => none
  | n + 1, x0', x1', x2', x3', e0, e1 => slices_Index_stringstring_2_0_B (fun x0' x1' x2' x3' => slices_Index_stringstring_2_0_L n x0' x1' x2' x3' e0 e1) x0' x1' x2' x3' e0 e1
noncomputable def slices_Index_stringstring_2_0_h : Hint := { live := [0, 1, 7, 8], own := [], rows := [], cells := [], drop := [], out := [4] }
abbrev slices_Index_stringstring_2_0_D : Type := (List Str) × Str × Int × Int
noncomputable def slices_Index_stringstring_2_0_enc : slices_Index_stringstring_2_0_D → St := fun d => ⟨[.sl .str d.1 .no, .str d.2.1, .undef, .undef, .undef, .undef, .undef, .int .i64 d.2.2.1, .int .i64 d.2.2.2, .undef, .undef, .undef, .undef, .undef, .undef, .undef, .undef, .undef, .undef], []⟩
noncomputable def slices_Index_stringstring_2_0_x0 {R : Type} (K : Ex → St → Option R) : Option R := K (.exit 0) ⟨[.undef, .undef, .undef, .undef, .undef, .undef, .undef, .undef, .undef, .undef, .undef, .undef, .undef, .undef, .undef, .undef, .undef, .undef, .undef], []⟩
noncomputable def slices_Index_stringstring_2_0_x1 {R : Type} (K : Ex → St → Option R) (q0 : Int) : Option R := K (.ret) ⟨[.undef, .undef, .undef, .undef, .int .i64 q0, .undef, .undef, .undef, .undef, .undef, .undef, .undef, .undef, .undef, .undef, .undef, .undef, .undef, .undef], []⟩
noncomputable def slices_Index_stringstring_2_0_s {R : Type} (K : Ex → St → Option R) (rc : slices_Index_stringstring_2_0_D → Option R) (d : slices_Index_stringstring_2_0_D) : Option R := slices_Index_stringstring_2_0_B (fun z0 z1 z2 z3 => rc (z0, z1, z2, z3)) d.1 d.2.1 d.2.2.1 d.2.2.2 (slices_Index_stringstring_2_0_x0 K) (slices_Index_stringstring_2_0_x1 K)
noncomputable def slices_Index_stringstring_2_0_A {R : Type} (K : Ex → St → Option R) (n : Nat) (d : slices_Index_stringstring_2_0_D) : Option R := slices_Index_stringstring_2_0_L n d.1 d.2.1 d.2.2.1 d.2.2.2 (slices_Index_stringstring_2_0_x0 K) (slices_Index_stringstring_2_0_x1 K)
abbrev slices_Index_stringstring_2_0_p : List Pat := [.leaf (.sl .str), .leaf (.str), .leaf (.undef), .leaf (.undef), .leaf (.undef), .leaf (.undef), .leaf (.undef), .leaf (.int .i64), .leaf (.int .i64), .leaf (.undef), .leaf (.undef), .leaf (.undef), .leaf (.undef), .leaf (.undef), .leaf (.undef), .leaf (.undef), .leaf (.undef), .leaf (.undef), .leaf (.undef)]
abbrev slices_Index_stringstring_2_0_q : List HPat := []
noncomputable def slices_Index_stringstring_2_0_f (x : Pat.dens slices_Index_stringstring_2_0_p) (y : HPat.dens slices_Index_stringstring_2_0_q) : Nat := (List.length x.1 + List.length x.2.1 + Int.natAbs x.2.2.2.2.2.2.2.1 + Int.natAbs x.2.2.2.2.2.2.2.2.1 + 64)
noncomputable def slices_Index_stringstring_2_0_d (x : Pat.dens slices_Index_stringstring_2_0_p) (y : HPat.dens slices_Index_stringstring_2_0_q) : slices_Index_stringstring_2_0_D := (x.1, x.2.1, x.2.2.2.2.2.2.2.1, x.2.2.2.2.2.2.2.2.1)
noncomputable def slices_Index_stringstring_2_0_rr {R : Type} (L : slices_Index_stringstring_2_0_ty R) : Pat.dens slices_Index_stringstring_2_0_p → HPat.dens slices_Index_stringstring_2_0_q → (Ex → St → Option R) → Option R := fun x y K => L (slices_Index_stringstring_2_0_f x y) x.1 x.2.1 x.2.2.2.2.2.2.2.1 x.2.2.2.2.2.2.2.2.1 (slices_Index_stringstring_2_0_x0 K) (slices_Index_stringstring_2_0_x1 K)
noncomputable def slices_Index_stringstring_T (R : Type) (slices_Index_stringstring_2_0_L : slices_Index_stringstring_2_0_ty R) : Nat → Option (Hint × LSpec R) := fun i => match i with
  | 2 => some (slices_Index_stringstring_2_0_h, (loopBy slices_Index_stringstring_2_0_p slices_Index_stringstring_2_0_q (slices_Index_stringstring_2_0_rr slices_Index_stringstring_2_0_L) loopNo))
  | _ => none

theorem slices_Index_stringstring_2_0_B_ok {R : Type} (slices_Index_stringstring_2_0_L : slices_Index_stringstring_2_0_ty R) (K : Ex → St → Option R) (rc : St → Option R) (d : slices_Index_stringstring_2_0_D) : roundOf tt (slices_Index_stringstring_E R) (slices_Index_stringstring_T R slices_Index_stringstring_2_0_L) 0 ((loopsOf (codeOf Tryz.f142)).getD 0 .skip) slices_Index_stringstring_2_0_h (slices_Index_stringstring_2_0_enc d) rc K = slices_Index_stringstring_2_0_s K (fun d => rc (slices_Index_stringstring_2_0_enc d)) d := by kernel_rfl
theorem slices_Index_stringstring_2_0_A_succ {R : Type} (K : Ex → St → Option R) (n : Nat) (d : slices_Index_stringstring_2_0_D) : slices_Index_stringstring_2_0_A K (n + 1) d = slices_Index_stringstring_2_0_s K (slices_Index_stringstring_2_0_A K n) d := by kernel_rfl
theorem slices_Index_stringstring_2_0_A_zero {R : Type} (K : Ex → St → Option R) (d : slices_Index_stringstring_2_0_D) : slices_Index_stringstring_2_0_A K 0 d = none := by kernel_rfl
theorem slices_Index_stringstring_2_0_e_ok (x : Pat.dens slices_Index_stringstring_2_0_p) (y : HPat.dens slices_Index_stringstring_2_0_q) : (⟨Pat.encL slices_Index_stringstring_2_0_p x, HPat.encL slices_Index_stringstring_2_0_q y⟩ : St) = slices_Index_stringstring_2_0_enc (slices_Index_stringstring_2_0_d x y) := by kernel_rfl
theorem slices_Index_stringstring_2_0_r_ok {R : Type} (x : Pat.dens slices_Index_stringstring_2_0_p) (y : HPat.dens slices_Index_stringstring_2_0_q) (K : Ex → St → Option R) : slices_Index_stringstring_2_0_rr (slices_Index_stringstring_2_0_L) x y K = slices_Index_stringstring_2_0_A K (slices_Index_stringstring_2_0_f x y) (slices_Index_stringstring_2_0_d x y) := by kernel_rfl
theorem slices_Index_stringstring_2_0_ok {R : Type} (other : LSpec R) (ho : LsOk tt (slices_Index_stringstring_E R) (slices_Index_stringstring_T R slices_Index_stringstring_2_0_L) 0 ((loopsOf (codeOf Tryz.f142)).getD 0 .skip) slices_Index_stringstring_2_0_h other) : LsOk tt (slices_Index_stringstring_E R) (slices_Index_stringstring_T R slices_Index_stringstring_2_0_L) 0 ((loopsOf (codeOf Tryz.f142)).getD 0 .skip) slices_Index_stringstring_2_0_h (loopBy slices_Index_stringstring_2_0_p slices_Index_stringstring_2_0_q (slices_Index_stringstring_2_0_rr (slices_Index_stringstring_2_0_L)) other) :=
  loopBy_tie (A := slices_Index_stringstring_2_0_A) ho (loop_tie slices_Index_stringstring_2_0_enc (slices_Index_stringstring_2_0_s) (slices_Index_stringstring_2_0_A) (slices_Index_stringstring_2_0_A_zero) (slices_Index_stringstring_2_0_B_ok slices_Index_stringstring_2_0_L) (slices_Index_stringstring_2_0_A_succ)) slices_Index_stringstring_2_0_f slices_Index_stringstring_2_0_d slices_Index_stringstring_2_0_e_ok (slices_Index_stringstring_2_0_r_ok)

noncomputable def slices_Index_stringstring_X {R : Type} (slices_Index_stringstring_2_0_L : slices_Index_stringstring_2_0_ty R) (x1 : List Str) (x2 : Str) (k0 : Int → Option R) : Option R :=
  slices_Index_stringstring_2_0_L (List.length x1 + List.length x2 + Int.natAbs (x1.length : Int) + Int.natAbs 0 + 64) x1 x2 (x1.length : Int) 0 (k0 (-1)) (fun y7 => k0 y7)
noncomputable def slices_Index_stringstring {R : Type} : slices_Index_stringstring_ty R := fun x1 x2 k0 => slices_Index_stringstring_X slices_Index_stringstring_2_0_L x1 x2 k0
theorem slices_Index_stringstring_ok {R : Type} (slices_Index_stringstring_2_0_L : slices_Index_stringstring_2_0_ty R) (x1 : List Str) (x2 : Str) (k : V → Heap → Option R) : funK tt (slices_Index_stringstring_E R) (slices_Index_stringstring_T R slices_Index_stringstring_2_0_L) false Tryz.f142 (codeOf Tryz.f142) [.sl .str x1 .no, .str x2] [] k =
    slices_Index_stringstring_X slices_Index_stringstring_2_0_L x1 x2 (fun q0 => k (.int .i64 q0) []) := by kernel_rfl
theorem slices_Index_stringstring_loops (R : Type) : ∀ a ∈ loopsOf (codeOf Tryz.f142), LoopOk tt (slices_Index_stringstring_E R) (slices_Index_stringstring_T R slices_Index_stringstring_2_0_L) 0 a := by
  refine loops_ok 1 (by kernel_rfl) fun i hi => ?_
  match i, hi with
  | 0, _ => exact loopOk_some (by kernel_rfl) (slices_Index_stringstring_2_0_ok _ loopNo_ok)
  | n + 1, hi => omega
theorem slices_Index_stringstring_S_ok (R : Type) (other : Yard.Spec R) (ho : Yard.Spec.Ok Tryz.prog 142 other) : Yard.Spec.Ok Tryz.prog 142 (specBy slices_Index_stringstring_p slices_Index_stringstring_q (slices_Index_stringstring_rr slices_Index_stringstring) other) :=
  specBy_ok ho (funK_sound TT mixed (slices_Index_stringstring_EOk R) (keep := false) rfl rfl rfl rfl 0 (slices_Index_stringstring_loops R)) fun (x : Pat.dens slices_Index_stringstring_p) (y : HPat.dens slices_Index_stringstring_q) k => slices_Index_stringstring_ok slices_Index_stringstring_2_0_L x.1 x.2.1 k

/-! ### slices.Contains[[]string,string] -/
abbrev slices_Contains_stringstring_ty (R : Type) : Type := (List Str) → Str → (Bool → Option R) → Option R
abbrev slices_Contains_stringstring_p : List Pat := [.leaf (.sl .str), .leaf (.str)]
abbrev slices_Contains_stringstring_q : List HPat := []
noncomputable def slices_Contains_stringstring_rr {R : Type} (fn : slices_Contains_stringstring_ty R) : Pat.dens slices_Contains_stringstring_p → HPat.dens slices_Contains_stringstring_q → (V → Heap → Option R) → Option R := fun x y k => fn x.1 x.2.1 (fun q0 => k (.bool q0) [])
noncomputable def slices_Contains_stringstring_E (R : Type) (slices_Index_stringstring : slices_Index_stringstring_ty R) : Env R := fun i => match i with
  | 142 => some (true, (specBy slices_Index_stringstring_p slices_Index_stringstring_q (slices_Index_stringstring_rr slices_Index_stringstring) specNo))
  | _ => none
theorem slices_Contains_stringstring_EOk (R : Type) : EOk Tryz.prog (slices_Contains_stringstring_E R slices_Index_stringstring) := by
  intro i b sp h
  unfold slices_Contains_stringstring_E at h
  split at h
  · cases h; exact ⟨(slices_Index_stringstring_S_ok R _ (specNo_ok _)), fun h => nomatch h⟩
  · cases h

noncomputable def slices_Contains_stringstring_T (R : Type) : Nat → Option (Hint × LSpec R) := fun i => match i with
  | _ => none

noncomputable def slices_Contains_stringstring_X {R : Type} (slices_Index_stringstring : slices_Index_stringstring_ty R) (x1 : List Str) (x2 : Str) (k0 : Bool → Option R) : Option R :=
  slices_Index_stringstring x1 x2 (fun y3 => k0 (decide (y3 ≥ (0 : Int))))
noncomputable def slices_Contains_stringstring {R : Type} : slices_Contains_stringstring_ty R := fun x1 x2 k0 => slices_Contains_stringstring_X slices_Index_stringstring x1 x2 k0
theorem slices_Contains_stringstring_ok {R : Type} (slices_Index_stringstring : slices_Index_stringstring_ty R) (x1 : List Str) (x2 : Str) (k : V → Heap → Option R) : funK tt (slices_Contains_stringstring_E R slices_Index_stringstring) (slices_Contains_stringstring_T R) false Tryz.f123 (codeOf Tryz.f123) [.sl .str x1 .no, .str x2] [] k =
    slices_Contains_stringstring_X slices_Index_stringstring x1 x2 (fun q0 => k (.bool q0) []) := by kernel_rfl
theorem slices_Contains_stringstring_loops (R : Type) : ∀ a ∈ loopsOf (codeOf Tryz.f123), LoopOk tt (slices_Contains_stringstring_E R slices_Index_stringstring) (slices_Contains_stringstring_T R) 0 a := by
  refine loops_ok 0 (by kernel_rfl) fun i hi => ?_
  omega
theorem slices_Contains_stringstring_S_ok (R : Type) (other : Yard.Spec R) (ho : Yard.Spec.Ok Tryz.prog 123 other) : Yard.Spec.Ok Tryz.prog 123 (specBy slices_Contains_stringstring_p slices_Contains_stringstring_q (slices_Contains_stringstring_rr slices_Contains_stringstring) other) :=
  specBy_ok ho (funK_sound TT mixed (slices_Contains_stringstring_EOk R) (keep := false) rfl rfl rfl rfl 0 (slices_Contains_stringstring_loops R)) fun (x : Pat.dens slices_Contains_stringstring_p) (y : HPat.dens slices_Contains_stringstring_q) k => slices_Contains_stringstring_ok slices_Index_stringstring x.1 x.2.1 k

/-! ### (*humpyard/json.parser).name -/
abbrev json_parser_name_94d4_ty (R : Type) : Type := (List Str) → (List Token) → Int → (Str → (List Token) → Int → Option R) → Option R
abbrev json_parser_name_94d4_p : List Pat := [.leaf (.ptr 0 0), .leaf (.slo .str 1)]
abbrev json_parser_name_94d4_q : List HPat := [.cells [.sl .token, .int .i64], .tok]
noncomputable def json_parser_name_94d4_rr {R : Type} (fn : json_parser_name_94d4_ty R) : Pat.dens json_parser_name_94d4_p → HPat.dens json_parser_name_94d4_q → (V → Heap → Option R) → Option R := fun x y k => fn x.2.1 y.1.1 y.1.2.1 (fun q0 q1 q2 => k (.str q0) [.cells [.sl .token q1 .no, .int .i64 q2], .tok])
noncomputable def json_parser_name_94d4_E (R : Type) (json_parser_fail_67a1 : json_parser_fail_67a1_ty R) (json_parser_sign_b8e2 : json_parser_sign_b8e2_ty R) (slices_Contains_stringstring : slices_Contains_stringstring_ty R) : Env R := fun i => match i with
  | 43 => some (false, (specBy json_parser_fail_67a1_p json_parser_fail_67a1_q (json_parser_fail_67a1_rr json_parser_fail_67a1) specNo))
  | 122 => some (false, (specBy json_parser_sign_b8e2_p json_parser_sign_b8e2_q (json_parser_sign_b8e2_rr json_parser_sign_b8e2) specNo))
  | 123 => some (true, (specBy slices_Contains_stringstring_p slices_Contains_stringstring_q (slices_Contains_stringstring_rr slices_Contains_stringstring) specNo))
  | _ => none
theorem json_parser_name_94d4_EOk (R : Type) : EOk Tryz.prog (json_parser_name_94d4_E R json_parser_fail_67a1 json_parser_sign_b8e2 slices_Contains_stringstring) := by
  intro i b sp h
  unfold json_parser_name_94d4_E at h
  split at h
  · cases h; exact ⟨(json_parser_fail_67a1_S_ok R _ (specNo_ok _)), fun _ h => nomatch h⟩
  · cases h; exact ⟨(json_parser_sign_b8e2_S_ok R _ (specNo_ok _)), fun _ h => nomatch h⟩
  · cases h; exact ⟨(slices_Contains_stringstring_S_ok R _ (specNo_ok _)), fun h => nomatch h⟩
  · cases h

noncomputable def json_parser_name_94d4_T (R : Type) : Nat → Option (Hint × LSpec R) := fun i => match i with
  | _ => none

noncomputable def json_parser_name_94d4_X {R : Type} (json_parser_fail_67a1 : json_parser_fail_67a1_ty R) (json_parser_sign_b8e2 : json_parser_sign_b8e2_ty R) (slices_Contains_stringstring : slices_Contains_stringstring_ty R) (x1 : List Str) (x2 : List Token) (x3 : Int) (k0 : Str → (List Token) → Int → Option R) : Option R :=
  chk (decide ((0 : Int) < x2.length)) (bif ((x2.getD 0 (Ty.dflt .token)).kind != 2) then (json_parser_fail_67a1 40 x2 x3 (fun y4 y5 => k0 ((x2.getD 0 (Ty.dflt .token)).text) y4 y5)) else (slices_Contains_stringstring x1 ((x2.getD 0 (Ty.dflt .token)).text) (fun y6 => bif y6 then (json_parser_fail_67a1 42 x2 x3 (fun y7 y8 => k0 ((x2.getD 0 (Ty.dflt .token)).text) y7 y8)) else (chk (decide ((1 : Int) ≤ x2.length)) (json_parser_sign_b8e2 ([58] : Str) (x2.drop 1) x3 (fun y9 y10 y11 => bif (!y9) then (json_parser_fail_67a1 40 y10 y11 (fun y12 y13 => k0 ((x2.getD 0 (Ty.dflt .token)).text) y12 y13)) else (k0 ((x2.getD 0 (Ty.dflt .token)).text) y10 y11)))))))
noncomputable def json_parser_name_94d4 {R : Type} : json_parser_name_94d4_ty R := fun x1 x2 x3 k0 => json_parser_name_94d4_X json_parser_fail_67a1 json_parser_sign_b8e2 slices_Contains_stringstring x1 x2 x3 k0
theorem json_parser_name_94d4_ok {R : Type} (json_parser_fail_67a1 : json_parser_fail_67a1_ty R) (json_parser_sign_b8e2 : json_parser_sign_b8e2_ty R) (slices_Contains_stringstring : slices_Contains_stringstring_ty R) (x1 : List Str) (x2 : List Token) (x3 : Int) (k : V → Heap → Option R) : funK (tt.mode [.json]) (json_parser_name_94d4_E R json_parser_fail_67a1 json_parser_sign_b8e2 slices_Contains_stringstring) (json_parser_name_94d4_T R) false Tryz.f90 (codeOf Tryz.f90) [.ptr 0 0, .sl .str x1 (.own 1)] [.cells [.sl .token x2 .no, .int .i64 x3], .tok] k =
    json_parser_name_94d4_X json_parser_fail_67a1 json_parser_sign_b8e2 slices_Contains_stringstring x1 x2 x3 (fun q0 q1 q2 => k (.str q0) [.cells [.sl .token q1 .no, .int .i64 q2], .tok]) := by kernel_rfl
theorem json_parser_name_94d4_loops (R : Type) : ∀ a ∈ loopsOf (codeOf Tryz.f90), LoopOk (tt.mode [.json]) (json_parser_name_94d4_E R json_parser_fail_67a1 json_parser_sign_b8e2 slices_Contains_stringstring) (json_parser_name_94d4_T R) 2 a := by
  refine loops_ok 0 (by kernel_rfl) fun i hi => ?_
  omega
theorem json_parser_name_94d4_S_ok (R : Type) (other : Yard.Spec R) (ho : Yard.Spec.Ok Tryz.prog 90 other) : Yard.Spec.Ok Tryz.prog 90 (specBy json_parser_name_94d4_p json_parser_name_94d4_q (json_parser_name_94d4_rr json_parser_name_94d4) other) :=
  specBy_ok ho (funK_sound (TT.mode [.json]) mixed (json_parser_name_94d4_EOk R) (keep := false) rfl rfl rfl rfl 2 (json_parser_name_94d4_loops R)) fun (x : Pat.dens json_parser_name_94d4_p) (y : HPat.dens json_parser_name_94d4_q) k => json_parser_name_94d4_ok json_parser_fail_67a1 json_parser_sign_b8e2 slices_Contains_stringstring x.2.1 y.1.1 y.1.2.1 k

end Go.Proofs.YtmlkkgfenfdndaaGreatDoor

/-
  Functions of the program as pure Lean functions, and the ties; printed by wip/tools/emit.py.
-/
set_option maxRecDepth 100000
set_option linter.unusedVariables false
namespace Go.Proofs.YtmlkkgfenfdndaaGreatDoor
open Go Go.Yard

/-! ### (*humpyard/json.parser).value -/
abbrev json_parser_value_67a1_ty (R : Type) : Type := Int → (List Token) → Int → (Json → (List Token) → Int → Option R) → Option R
abbrev json_parser_value_67a1_p : List Pat := [.leaf (.ptr 0 0), .leaf (.int .i64)]
abbrev json_parser_value_67a1_q : List HPat := [.cells [.sl .token, .int .i64]]
noncomputable def json_parser_value_67a1_rr {R : Type} (fn : json_parser_value_67a1_ty R) : Pat.dens json_parser_value_67a1_p → HPat.dens json_parser_value_67a1_q → (V → Heap → Option R) → Option R := fun x y k => fn x.2.1 y.1.1 y.1.2.1 (fun q0 q1 q2 => k (.agg [.int .i64 q0.kind, .int .i64 q0.num.mant, .int .i64 q0.num.exp, .str q0.text, .sl .str q0.names .no, .sl .json q0.items .no]) [.cells [.sl .token q1 .no, .int .i64 q2]])
/-! ### (*humpyard/json.parser).parts$1 -/
abbrev json_parser_parts_1_87d1_ty (R : Type) : Type := Bool → Int → Int → Int → Str → (List Str) → Nat → Int → (List Json) → (List Token) → Int → (Bool → Int → Int → Int → Str → (List Str) → Nat → Int → (List Token) → Int → (List Json) → Option R) → (Bool → Int → Int → Int → Str → (List Str) → Nat → Int → (List Json) → (List Token) → Int → Option R) → (Bool → Int → Int → Int → Str → (List Str) → Nat → Int → (List Token) → Int → (List Json) → Option R) → (Bool → Int → Int → Int → Str → (List Str) → Nat → Int → (List Json) → (List Token) → Int → Option R) → Option R
abbrev json_parser_parts_1_87d1_p : List Pat := [.leaf (.ptr 0 0), .leaf (.ptr 1 0), .leaf (.ptr 2 0), .leaf (.ptr 3 0)]
abbrev json_parser_parts_1_87d1_q : List HPat := [.cells [.bool], .cells [.int .i64, .int .i64, .int .i64, .str, .slo .str 4, .row 5], .cells [.ptr 6 0], .cells [.int .i64], .tok, .row .json, .cells [.sl .token, .int .i64]]
noncomputable def json_parser_parts_1_87d1_rr {R : Type} (fn : json_parser_parts_1_87d1_ty R) : Pat.dens json_parser_parts_1_87d1_p → HPat.dens json_parser_parts_1_87d1_q → (V → Heap → Option R) → Option R := fun x y k => fn y.1.1 y.2.1.1 y.2.1.2.1 y.2.1.2.2.1 y.2.1.2.2.2.1 y.2.1.2.2.2.2.1 y.2.1.2.2.2.2.2.1 y.2.2.2.1.1 y.2.2.2.2.2.1 y.2.2.2.2.2.2.1.1 y.2.2.2.2.2.2.1.2.1 (fun q0 q1 q2 q3 q4 q5 q6 q7 q8 q9 q10 => k (.tuple []) [.cells [.bool q0], .cells [.int .i64 q1, .int .i64 q2, .int .i64 q3, .str q4, .sl .str q5 (.own 7), .row 8 q6], .cells [.ptr 6 0], .cells [.int .i64 q7], .dead, .dead, .cells [.sl .token q8 .no, .int .i64 q9], .tok, .row .json q10]) (fun q0 q1 q2 q3 q4 q5 q6 q7 q8 q9 q10 => k (.tuple []) [.cells [.bool q0], .cells [.int .i64 q1, .int .i64 q2, .int .i64 q3, .str q4, .sl .str q5 (.own 7), .row 5 q6], .cells [.ptr 6 0], .cells [.int .i64 q7], .dead, .row .json q8, .cells [.sl .token q9 .no, .int .i64 q10], .tok]) (fun q0 q1 q2 q3 q4 q5 q6 q7 q8 q9 q10 => k (.tuple []) [.cells [.bool q0], .cells [.int .i64 q1, .int .i64 q2, .int .i64 q3, .str q4, .sl .str q5 (.own 4), .row 7 q6], .cells [.ptr 6 0], .cells [.int .i64 q7], .tok, .dead, .cells [.sl .token q8 .no, .int .i64 q9], .row .json q10]) (fun q0 q1 q2 q3 q4 q5 q6 q7 q8 q9 q10 => k (.tuple []) [.cells [.bool q0], .cells [.int .i64 q1, .int .i64 q2, .int .i64 q3, .str q4, .sl .str q5 (.own 4), .row 5 q6], .cells [.ptr 6 0], .cells [.int .i64 q7], .tok, .row .json q8, .cells [.sl .token q9 .no, .int .i64 q10]])
noncomputable def json_parser_parts_1_87d1_E (R : Type) (json_parser_name_94d4 : json_parser_name_94d4_ty R) (hrec_json_parser_value_67a1 : json_parser_value_67a1_ty R) : Env R := fun i => match i with
  | 90 => some (false, (specBy json_parser_name_94d4_p json_parser_name_94d4_q (json_parser_name_94d4_rr json_parser_name_94d4) specNo))
  | 42 => some (false, (specBy json_parser_value_67a1_p json_parser_value_67a1_q (json_parser_value_67a1_rr hrec_json_parser_value_67a1) specNo))
  | _ => none
theorem json_parser_parts_1_87d1_EOk (R : Type) (hrec_json_parser_value_67a1 : json_parser_value_67a1_ty R) (hyp_json_parser_value_67a1 : Yard.Spec.Ok Tryz.prog 42 (specBy json_parser_value_67a1_p json_parser_value_67a1_q (json_parser_value_67a1_rr hrec_json_parser_value_67a1) specNo)) : EOk Tryz.prog (json_parser_parts_1_87d1_E R json_parser_name_94d4 hrec_json_parser_value_67a1) := by
  intro i b sp h
  unfold json_parser_parts_1_87d1_E at h
  split at h
  · cases h; exact ⟨(json_parser_name_94d4_S_ok R _ (specNo_ok _)), fun _ h => nomatch h⟩
  · cases h; exact ⟨hyp_json_parser_value_67a1, fun _ h => nomatch h⟩
  · cases h

noncomputable def json_parser_parts_1_87d1_T (R : Type) : Nat → Option (Hint × LSpec R) := fun i => match i with
  | _ => none

noncomputable def json_parser_parts_1_87d1_X {R : Type} (json_parser_name_94d4 : json_parser_name_94d4_ty R) (hrec_json_parser_value_67a1 : json_parser_value_67a1_ty R) (x1 : Bool) (x2 : Int) (x3 : Int) (x4 : Int) (x5 : Str) (x6 : List Str) (x7 : Nat) (x8 : Int) (x9 : List Json) (x10 : List Token) (x11 : Int) (k0 : Bool → Int → Int → Int → Str → (List Str) → Nat → Int → (List Token) → Int → (List Json) → Option R) (k1 : Bool → Int → Int → Int → Str → (List Str) → Nat → Int → (List Json) → (List Token) → Int → Option R) (k2 : Bool → Int → Int → Int → Str → (List Str) → Nat → Int → (List Token) → Int → (List Json) → Option R) (k3 : Bool → Int → Int → Int → Str → (List Str) → Nat → Int → (List Json) → (List Token) → Int → Option R) : Option R :=
  bif x1 then (json_parser_name_94d4 x6 x10 x11 (fun y12 y13 y14 => chk (decide ((x6.length + 1) * 16 ≤ 140737488355328)) (bif (y14 == 0) then (hrec_json_parser_value_67a1 (IntKind.i64.wrap (x8 + 1)) y13 y14 (fun y15 y16 y17 => chk (decide ((x9.length + 1) * 88 ≤ 140737488355328)) (chk (decide ((0 : Int) ≤ (x7 : Int)) && decide ((x7 : Int) < (x9.length + 1))) (chk (decide ((x7 : Int).toNat < (x9 ++ ([(⟨0, ⟨0, 0⟩, ([] : Str), ([] : List Str), ([] : List Json)⟩ : Json)] : List Json)).length)) (k0 x1 x2 x3 x4 x5 (x6 ++ ([y12] : List Str)) (x9.length + 1) x8 y16 y17 ((x9 ++ ([(⟨0, ⟨0, 0⟩, ([] : Str), ([] : List Str), ([] : List Json)⟩ : Json)] : List Json)).set ((x7 : Int).toNat) (⟨y15.kind, ⟨y15.num.mant, y15.num.exp⟩, y15.text, y15.names, y15.items⟩ : Json))))))) else (k1 x1 x2 x3 x4 x5 (x6 ++ ([y12] : List Str)) x7 x8 x9 y13 y14)))) else (bif (x11 == 0) then (hrec_json_parser_value_67a1 (IntKind.i64.wrap (x8 + 1)) x10 x11 (fun y18 y19 y20 => chk (decide ((x9.length + 1) * 88 ≤ 140737488355328)) (chk (decide ((0 : Int) ≤ (x7 : Int)) && decide ((x7 : Int) < (x9.length + 1))) (chk (decide ((x7 : Int).toNat < (x9 ++ ([(⟨0, ⟨0, 0⟩, ([] : Str), ([] : List Str), ([] : List Json)⟩ : Json)] : List Json)).length)) (k2 x1 x2 x3 x4 x5 x6 (x9.length + 1) x8 y19 y20 ((x9 ++ ([(⟨0, ⟨0, 0⟩, ([] : Str), ([] : List Str), ([] : List Json)⟩ : Json)] : List Json)).set ((x7 : Int).toNat) (⟨y18.kind, ⟨y18.num.mant, y18.num.exp⟩, y18.text, y18.names, y18.items⟩ : Json))))))) else (k3 x1 x2 x3 x4 x5 x6 x7 x8 x9 x10 x11))
noncomputable def json_parser_parts_1_87d1 {R : Type} (hrec_json_parser_value_67a1 : json_parser_value_67a1_ty R) : json_parser_parts_1_87d1_ty R := fun x1 x2 x3 x4 x5 x6 x7 x8 x9 x10 x11 k0 k1 k2 k3 => json_parser_parts_1_87d1_X json_parser_name_94d4 hrec_json_parser_value_67a1 x1 x2 x3 x4 x5 x6 x7 x8 x9 x10 x11 k0 k1 k2 k3
theorem json_parser_parts_1_87d1_ok {R : Type} (json_parser_name_94d4 : json_parser_name_94d4_ty R) (hrec_json_parser_value_67a1 : json_parser_value_67a1_ty R) (x1 : Bool) (x2 : Int) (x3 : Int) (x4 : Int) (x5 : Str) (x6 : List Str) (x7 : Nat) (x8 : Int) (x9 : List Json) (x10 : List Token) (x11 : Int) (k : V → Heap → Option R) : funK (tt.mode [.json]) (json_parser_parts_1_87d1_E R json_parser_name_94d4 hrec_json_parser_value_67a1) (json_parser_parts_1_87d1_T R) false Tryz.f89 (codeOf Tryz.f89) [.ptr 0 0, .ptr 1 0, .ptr 2 0, .ptr 3 0] [.cells [.bool x1], .cells [.int .i64 x2, .int .i64 x3, .int .i64 x4, .str x5, .sl .str x6 (.own 4), .row 5 x7], .cells [.ptr 6 0], .cells [.int .i64 x8], .tok, .row .json x9, .cells [.sl .token x10 .no, .int .i64 x11]] k =
    json_parser_parts_1_87d1_X json_parser_name_94d4 hrec_json_parser_value_67a1 x1 x2 x3 x4 x5 x6 x7 x8 x9 x10 x11 (fun q0 q1 q2 q3 q4 q5 q6 q7 q8 q9 q10 => k (.tuple []) [.cells [.bool q0], .cells [.int .i64 q1, .int .i64 q2, .int .i64 q3, .str q4, .sl .str q5 (.own 7), .row 8 q6], .cells [.ptr 6 0], .cells [.int .i64 q7], .dead, .dead, .cells [.sl .token q8 .no, .int .i64 q9], .tok, .row .json q10]) (fun q0 q1 q2 q3 q4 q5 q6 q7 q8 q9 q10 => k (.tuple []) [.cells [.bool q0], .cells [.int .i64 q1, .int .i64 q2, .int .i64 q3, .str q4, .sl .str q5 (.own 7), .row 5 q6], .cells [.ptr 6 0], .cells [.int .i64 q7], .dead, .row .json q8, .cells [.sl .token q9 .no, .int .i64 q10], .tok]) (fun q0 q1 q2 q3 q4 q5 q6 q7 q8 q9 q10 => k (.tuple []) [.cells [.bool q0], .cells [.int .i64 q1, .int .i64 q2, .int .i64 q3, .str q4, .sl .str q5 (.own 4), .row 7 q6], .cells [.ptr 6 0], .cells [.int .i64 q7], .tok, .dead, .cells [.sl .token q8 .no, .int .i64 q9], .row .json q10]) (fun q0 q1 q2 q3 q4 q5 q6 q7 q8 q9 q10 => k (.tuple []) [.cells [.bool q0], .cells [.int .i64 q1, .int .i64 q2, .int .i64 q3, .str q4, .sl .str q5 (.own 4), .row 5 q6], .cells [.ptr 6 0], .cells [.int .i64 q7], .tok, .row .json q8, .cells [.sl .token q9 .no, .int .i64 q10]]) := by kernel_rfl
theorem json_parser_parts_1_87d1_loops (R : Type) (hrec_json_parser_value_67a1 : json_parser_value_67a1_ty R) : ∀ a ∈ loopsOf (codeOf Tryz.f89), LoopOk (tt.mode [.json]) (json_parser_parts_1_87d1_E R json_parser_name_94d4 hrec_json_parser_value_67a1) (json_parser_parts_1_87d1_T R) 7 a := by
  refine loops_ok 0 (by kernel_rfl) fun i hi => ?_
  omega
theorem json_parser_parts_1_87d1_S_ok (R : Type) (hrec_json_parser_value_67a1 : json_parser_value_67a1_ty R) (hyp_json_parser_value_67a1 : Yard.Spec.Ok Tryz.prog 42 (specBy json_parser_value_67a1_p json_parser_value_67a1_q (json_parser_value_67a1_rr hrec_json_parser_value_67a1) specNo)) (other : Yard.Spec R) (ho : Yard.Spec.Ok Tryz.prog 89 other) : Yard.Spec.Ok Tryz.prog 89 (specBy json_parser_parts_1_87d1_p json_parser_parts_1_87d1_q (json_parser_parts_1_87d1_rr (json_parser_parts_1_87d1 hrec_json_parser_value_67a1)) other) :=
  specBy_ok ho (funK_sound (TT.mode [.json]) mixed (json_parser_parts_1_87d1_EOk R hrec_json_parser_value_67a1 hyp_json_parser_value_67a1) (keep := false) rfl rfl rfl rfl 7 (json_parser_parts_1_87d1_loops R hrec_json_parser_value_67a1)) fun (x : Pat.dens json_parser_parts_1_87d1_p) (y : HPat.dens json_parser_parts_1_87d1_q) k => json_parser_parts_1_87d1_ok json_parser_name_94d4 hrec_json_parser_value_67a1 y.1.1 y.2.1.1 y.2.1.2.1 y.2.1.2.2.1 y.2.1.2.2.2.1 y.2.1.2.2.2.2.1 y.2.1.2.2.2.2.2.1 y.2.2.2.1.1 y.2.2.2.2.2.1 y.2.2.2.2.2.2.1.1 y.2.2.2.2.2.2.1.2.1 k

/-! ### (*humpyard/json.parser).list -/
abbrev json_parser_list_0628_ty (R : Type) : Type := Str → (List Token) → Int → Bool → Int → Int → Int → Str → Int → ((List Token) → Int → Bool → Int → Int → Int → Str → Int → Option R) → ((List Token) → Int → Bool → Int → Int → Int → Str → (List Str) → Nat → Int → (List Json) → Option R) → Option R
abbrev json_parser_list_0628_p : List Pat := [.leaf (.ptr 0 0), .leaf (.str), .func 89 [] [.ptr 1 0, .ptr 2 0, .ptr 3 0, .ptr 4 0]]
abbrev json_parser_list_0628_q : List HPat := [.cells [.sl .token, .int .i64], .cells [.bool], .cells [.int .i64, .int .i64, .int .i64, .str, .nilsl, .nilsl], .cells [.ptr 0 0], .cells [.int .i64]]
noncomputable def json_parser_list_0628_rr {R : Type} (fn : json_parser_list_0628_ty R) : Pat.dens json_parser_list_0628_p → HPat.dens json_parser_list_0628_q → (V → Heap → Option R) → Option R := fun x y k => fn x.2.1 y.1.1 y.1.2.1 y.2.1.1 y.2.2.1.1 y.2.2.1.2.1 y.2.2.1.2.2.1 y.2.2.1.2.2.2.1 y.2.2.2.2.1.1 (fun q0 q1 q2 q3 q4 q5 q6 q7 => k (.tuple []) [.cells [.sl .token q0 .no, .int .i64 q1], .cells [.bool q2], .cells [.int .i64 q3, .int .i64 q4, .int .i64 q5, .str q6, .nilsl, .nilsl], .cells [.ptr 0 0], .cells [.int .i64 q7]]) (fun q0 q1 q2 q3 q4 q5 q6 q7 q8 q9 q10 => k (.tuple []) [.cells [.sl .token q0 .no, .int .i64 q1], .cells [.bool q2], .cells [.int .i64 q3, .int .i64 q4, .int .i64 q5, .str q6, .sl .str q7 (.own 5), .row 6 q8], .cells [.ptr 0 0], .cells [.int .i64 q9], .tok, .row .json q10])
abbrev json_parser_list_0628_1_0_ty (R : Type) : Type := Nat → Str → (List Token) → Int → Bool → Int → Int → Int → Str → (List Str) → Nat → Int → (List Json) → ((List Token) → Int → Bool → Int → Int → Int → Str → (List Str) → Nat → Int → (List Json) → Option R) → Option R
noncomputable def json_parser_list_0628_E (R : Type) (json_parser_fail_67a1 : json_parser_fail_67a1_ty R) (json_parser_parts_1_87d1 : json_parser_parts_1_87d1_ty R) (json_parser_sign_b8e2 : json_parser_sign_b8e2_ty R) : Env R := fun i => match i with
  | 43 => some (false, (specBy json_parser_fail_67a1_p json_parser_fail_67a1_q (json_parser_fail_67a1_rr json_parser_fail_67a1) specNo))
  | 89 => some (false, (specBy json_parser_parts_1_87d1_p json_parser_parts_1_87d1_q (json_parser_parts_1_87d1_rr json_parser_parts_1_87d1) specNo))
  | 122 => some (false, (specBy json_parser_sign_b8e2_p json_parser_sign_b8e2_q (json_parser_sign_b8e2_rr json_parser_sign_b8e2) specNo))
  | _ => none
theorem json_parser_list_0628_EOk (R : Type) (hrec_json_parser_value_67a1 : json_parser_value_67a1_ty R) (hyp_json_parser_value_67a1 : Yard.Spec.Ok Tryz.prog 42 (specBy json_parser_value_67a1_p json_parser_value_67a1_q (json_parser_value_67a1_rr hrec_json_parser_value_67a1) specNo)) : EOk Tryz.prog (json_parser_list_0628_E R json_parser_fail_67a1 (json_parser_parts_1_87d1 hrec_json_parser_value_67a1) json_parser_sign_b8e2) := by
  intro i b sp h
  unfold json_parser_list_0628_E at h
  split at h
  · cases h; exact ⟨(json_parser_fail_67a1_S_ok R _ (specNo_ok _)), fun _ h => nomatch h⟩
  · cases h; exact ⟨(json_parser_parts_1_87d1_S_ok R hrec_json_parser_value_67a1 hyp_json_parser_value_67a1 _ (specNo_ok _)), fun _ h => nomatch h⟩
  · cases h; exact ⟨(json_parser_sign_b8e2_S_ok R _ (specNo_ok _)), fun _ h => nomatch h⟩
  · cases h

noncomputable def json_parser_list_0628_1_0_B {R : Type} (json_parser_fail_67a1 : json_parser_fail_67a1_ty R) (json_parser_parts_1_87d1 : json_parser_parts_1_87d1_ty R) (json_parser_sign_b8e2 : json_parser_sign_b8e2_ty R) (rec' : Str → (List Token) → Int → Bool → Int → Int → Int → Str → (List Str) → Nat → Int → (List Json) → Option R) (x13 : Str) (x14 : List Token) (x15 : Int) (x16 : Bool) (x17 : Int) (x18 : Int) (x19 : Int) (x20 : Str) (x21 : List Str) (x22 : Nat) (x23 : Int) (x24 : List Json) (e0 : (List Token) → Int → Bool → Int → Int → Int → Str → (List Str) → Nat → Int → (List Json) → Option R) : Option R :=
  json_parser_parts_1_87d1 x16 x17 x18 x19 x20 x21 x22 x23 x24 x14 x15 (fun y25 y26 y27 y28 y29 y30 y31 y32 y33 y34 y35 => bif (y34 != 0) then (e0 y33 y34 y25 y26 y27 y28 y29 y30 y31 y32 y35) else (json_parser_sign_b8e2 x13 y33 y34 (fun y69 y70 y71 => bif y69 then (e0 y70 y71 y25 y26 y27 y28 y29 y30 y31 y32 y35) else (json_parser_sign_b8e2 ([44] : Str) y70 y71 (fun y75 y76 y77 => bif (!y75) then (json_parser_fail_67a1 40 y76 y77 (fun y78 y79 => e0 y78 y79 y25 y26 y27 y28 y29 y30 y31 y32 y35)) else (rec' x13 y76 y77 y25 y26 y27 y28 y29 y30 y31 y32 y35)))))) (fun y36 y37 y38 y39 y40 y41 y42 y43 y44 y45 y46 => bif (y46 != 0) then (e0 y45 y46 y36 y37 y38 y39 y40 y41 y42 y43 y44) else (json_parser_sign_b8e2 x13 y45 y46 (fun y80 y81 y82 => bif y80 then (e0 y81 y82 y36 y37 y38 y39 y40 y41 y42 y43 y44) else (json_parser_sign_b8e2 ([44] : Str) y81 y82 (fun y86 y87 y88 => bif (!y86) then (json_parser_fail_67a1 40 y87 y88 (fun y89 y90 => e0 y89 y90 y36 y37 y38 y39 y40 y41 y42 y43 y44)) else (rec' x13 y87 y88 y36 y37 y38 y39 y40 y41 y42 y43 y44)))))) (fun y47 y48 y49 y50 y51 y52 y53 y54 y55 y56 y57 => bif (y56 != 0) then (e0 y55 y56 y47 y48 y49 y50 y51 y52 y53 y54 y57) else (json_parser_sign_b8e2 x13 y55 y56 (fun y91 y92 y93 => bif y91 then (e0 y92 y93 y47 y48 y49 y50 y51 y52 y53 y54 y57) else (json_parser_sign_b8e2 ([44] : Str) y92 y93 (fun y97 y98 y99 => bif (!y97) then (json_parser_fail_67a1 40 y98 y99 (fun y100 y101 => e0 y100 y101 y47 y48 y49 y50 y51 y52 y53 y54 y57)) else (rec' x13 y98 y99 y47 y48 y49 y50 y51 y52 y53 y54 y57)))))) (fun y58 y59 y60 y61 y62 y63 y64 y65 y66 y67 y68 => bif (y68 != 0) then (e0 y67 y68 y58 y59 y60 y61 y62 y63 y64 y65 y66) else (json_parser_sign_b8e2 x13 y67 y68 (fun y102 y103 y104 => bif y102 then (e0 y103 y104 y58 y59 y60 y61 y62 y63 y64 y65 y66) else (json_parser_sign_b8e2 ([44] : Str) y103 y104 (fun y108 y109 y110 => bif (!y108) then (json_parser_fail_67a1 40 y109 y110 (fun y111 y112 => e0 y111 y112 y58 y59 y60 y61 y62 y63 y64 y65 y66)) else (rec' x13 y109 y110 y58 y59 y60 y61 y62 y63 y64 y65 y66))))))
noncomputable def json_parser_list_0628_1_0_L {R : Type} (hrec_json_parser_value_67a1 : json_parser_value_67a1_ty R) : json_parser_list_0628_1_0_ty R
  | 0, _, _, _, _, _, _, _, _, _, _, _, _, _ => none
  | n + 1, x0', x1', x2', x3', x4', x5', x6', x7', x8', x9', x10', x11', e0 => json_parser_list_0628_1_0_B json_parser_fail_67a1 (json_parser_parts_1_87d1 hrec_json_parser_value_67a1) json_parser_sign_b8e2 (fun x0' x1' x2' x3' x4' x5' x6' x7' x8' x9' x10' x11' => json_parser_list_0628_1_0_L hrec_json_parser_value_67a1 n x0' x1' x2' x3' x4' x5' x6' x7' x8' x9' x10' x11' e0) x0' x1' x2' x3' x4' x5' x6' x7' x8' x9' x10' x11' e0
noncomputable def json_parser_list_0628_1_0_h : Hint := { live := [0, 1, 2], own := [], rows := [], cells := [(2, 4, .str, false), (2, 5, .json, true)], drop := [], out := [] }
abbrev json_parser_list_0628_1_0_D : Type := Str × (List Token) × Int × Bool × Int × Int × Int × Str × (List Str) × Nat × Int × (List Json)
noncomputable def json_parser_list_0628_1_0_enc : json_parser_list_0628_1_0_D → St := fun d => ⟨[.ptr 0 0, .str d.1, .func 89 [] [.ptr 1 0, .ptr 2 0, .ptr 3 0, .ptr 4 0], .undef, .undef, .undef, .undef, .undef, .undef, .undef, .undef, .undef, .undef, .undef, .undef, .undef, .undef, .undef, .undef, .undef, .undef, .undef, .undef, .undef, .undef, .undef], [.cells [.sl .token d.2.1 .no, .int .i64 d.2.2.1], .cells [.bool d.2.2.2.1], .cells [.int .i64 d.2.2.2.2.1, .int .i64 d.2.2.2.2.2.1, .int .i64 d.2.2.2.2.2.2.1, .str d.2.2.2.2.2.2.2.1, .sl .str d.2.2.2.2.2.2.2.2.1 (.own 5), .row 6 d.2.2.2.2.2.2.2.2.2.1], .cells [.ptr 0 0], .cells [.int .i64 d.2.2.2.2.2.2.2.2.2.2.1], .tok, .row .json d.2.2.2.2.2.2.2.2.2.2.2]⟩
noncomputable def json_parser_list_0628_1_0_x0 {R : Type} (K : Ex → St → Option R) (q0 : List Token) (q1 : Int) (q2 : Bool) (q3 : Int) (q4 : Int) (q5 : Int) (q6 : Str) (q7 : List Str) (q8 : Nat) (q9 : Int) (q10 : List Json) : Option R := K (.ret) ⟨[.undef, .undef, .undef, .undef, .undef, .undef, .undef, .undef, .undef, .undef, .undef, .undef, .undef, .undef, .undef, .undef, .undef, .undef, .undef, .undef, .undef, .undef, .undef, .undef, .undef, .undef], [.cells [.sl .token q0 .no, .int .i64 q1], .cells [.bool q2], .cells [.int .i64 q3, .int .i64 q4, .int .i64 q5, .str q6, .sl .str q7 (.own 5), .row 6 q8], .cells [.ptr 0 0], .cells [.int .i64 q9], .tok, .row .json q10]⟩
noncomputable def json_parser_list_0628_1_0_s {R : Type} (json_parser_fail_67a1 : json_parser_fail_67a1_ty R) (json_parser_parts_1_87d1 : json_parser_parts_1_87d1_ty R) (json_parser_sign_b8e2 : json_parser_sign_b8e2_ty R) (K : Ex → St → Option R) (rc : json_parser_list_0628_1_0_D → Option R) (d : json_parser_list_0628_1_0_D) : Option R := json_parser_list_0628_1_0_B json_parser_fail_67a1 json_parser_parts_1_87d1 json_parser_sign_b8e2 (fun z0 z1 z2 z3 z4 z5 z6 z7 z8 z9 z10 z11 => rc (z0, z1, z2, z3, z4, z5, z6, z7, z8, z9, z10, z11)) d.1 d.2.1 d.2.2.1 d.2.2.2.1 d.2.2.2.2.1 d.2.2.2.2.2.1 d.2.2.2.2.2.2.1 d.2.2.2.2.2.2.2.1 d.2.2.2.2.2.2.2.2.1 d.2.2.2.2.2.2.2.2.2.1 d.2.2.2.2.2.2.2.2.2.2.1 d.2.2.2.2.2.2.2.2.2.2.2 (json_parser_list_0628_1_0_x0 K)
noncomputable def json_parser_list_0628_1_0_A {R : Type} (hrec_json_parser_value_67a1 : json_parser_value_67a1_ty R) (K : Ex → St → Option R) (n : Nat) (d : json_parser_list_0628_1_0_D) : Option R := json_parser_list_0628_1_0_L hrec_json_parser_value_67a1 n d.1 d.2.1 d.2.2.1 d.2.2.2.1 d.2.2.2.2.1 d.2.2.2.2.2.1 d.2.2.2.2.2.2.1 d.2.2.2.2.2.2.2.1 d.2.2.2.2.2.2.2.2.1 d.2.2.2.2.2.2.2.2.2.1 d.2.2.2.2.2.2.2.2.2.2.1 d.2.2.2.2.2.2.2.2.2.2.2 (json_parser_list_0628_1_0_x0 K)
abbrev json_parser_list_0628_1_0_p : List Pat := [.leaf (.ptr 0 0), .leaf (.str), .func 89 [] [.ptr 1 0, .ptr 2 0, .ptr 3 0, .ptr 4 0], .leaf (.undef), .leaf (.undef), .leaf (.undef), .leaf (.undef), .leaf (.undef), .leaf (.undef), .leaf (.undef), .leaf (.undef), .leaf (.undef), .leaf (.undef), .leaf (.undef), .leaf (.undef), .leaf (.undef), .leaf (.undef), .leaf (.undef), .leaf (.undef), .leaf (.undef), .leaf (.undef), .leaf (.undef), .leaf (.undef), .leaf (.undef), .leaf (.undef), .leaf (.undef)]
abbrev json_parser_list_0628_1_0_q : List HPat := [.cells [.sl .token, .int .i64], .cells [.bool], .cells [.int .i64, .int .i64, .int .i64, .str, .slo .str 5, .row 6], .cells [.ptr 0 0], .cells [.int .i64], .tok, .row .json]
noncomputable def json_parser_list_0628_1_0_f (x : Pat.dens json_parser_list_0628_1_0_p) (y : HPat.dens json_parser_list_0628_1_0_q) : Nat := (List.length x.2.1 + List.length y.1.1 + Int.natAbs y.1.2.1 + Int.natAbs y.2.2.1.1 + Int.natAbs y.2.2.1.2.1 + Int.natAbs y.2.2.1.2.2.1 + List.length y.2.2.1.2.2.2.1 + List.length y.2.2.1.2.2.2.2.1 + Int.natAbs y.2.2.2.2.1.1 + List.length y.2.2.2.2.2.2.1 + 64)
noncomputable def json_parser_list_0628_1_0_d (x : Pat.dens json_parser_list_0628_1_0_p) (y : HPat.dens json_parser_list_0628_1_0_q) : json_parser_list_0628_1_0_D := (x.2.1, y.1.1, y.1.2.1, y.2.1.1, y.2.2.1.1, y.2.2.1.2.1, y.2.2.1.2.2.1, y.2.2.1.2.2.2.1, y.2.2.1.2.2.2.2.1, y.2.2.1.2.2.2.2.2.1, y.2.2.2.2.1.1, y.2.2.2.2.2.2.1)
noncomputable def json_parser_list_0628_1_0_rr {R : Type} (L : json_parser_list_0628_1_0_ty R) : Pat.dens json_parser_list_0628_1_0_p → HPat.dens json_parser_list_0628_1_0_q → (Ex → St → Option R) → Option R := fun x y K => L (json_parser_list_0628_1_0_f x y) x.2.1 y.1.1 y.1.2.1 y.2.1.1 y.2.2.1.1 y.2.2.1.2.1 y.2.2.1.2.2.1 y.2.2.1.2.2.2.1 y.2.2.1.2.2.2.2.1 y.2.2.1.2.2.2.2.2.1 y.2.2.2.2.1.1 y.2.2.2.2.2.2.1 (json_parser_list_0628_1_0_x0 K)
noncomputable def json_parser_list_0628_T (R : Type) (json_parser_list_0628_1_0_L : json_parser_list_0628_1_0_ty R) : Nat → Option (Hint × LSpec R) := fun i => match i with
  | 1 => some (json_parser_list_0628_1_0_h, (loopBy json_parser_list_0628_1_0_p json_parser_list_0628_1_0_q (json_parser_list_0628_1_0_rr json_parser_list_0628_1_0_L) loopNo))
  | _ => none

theorem json_parser_list_0628_1_0_B_ok {R : Type} (json_parser_fail_67a1 : json_parser_fail_67a1_ty R) (json_parser_parts_1_87d1 : json_parser_parts_1_87d1_ty R) (json_parser_sign_b8e2 : json_parser_sign_b8e2_ty R) (json_parser_list_0628_1_0_L : json_parser_list_0628_1_0_ty R) (K : Ex → St → Option R) (rc : St → Option R) (d : json_parser_list_0628_1_0_D) : roundOf (tt.mode [.json]) (json_parser_list_0628_E R json_parser_fail_67a1 json_parser_parts_1_87d1 json_parser_sign_b8e2) (json_parser_list_0628_T R json_parser_list_0628_1_0_L) 5 ((loopsOf (codeOf Tryz.f88)).getD 0 .skip) json_parser_list_0628_1_0_h (json_parser_list_0628_1_0_enc d) rc K = json_parser_list_0628_1_0_s json_parser_fail_67a1 json_parser_parts_1_87d1 json_parser_sign_b8e2 K (fun d => rc (json_parser_list_0628_1_0_enc d)) d := by kernel_rfl
theorem json_parser_list_0628_1_0_A_succ {R : Type} (hrec_json_parser_value_67a1 : json_parser_value_67a1_ty R) (K : Ex → St → Option R) (n : Nat) (d : json_parser_list_0628_1_0_D) : json_parser_list_0628_1_0_A hrec_json_parser_value_67a1 K (n + 1) d = json_parser_list_0628_1_0_s json_parser_fail_67a1 (json_parser_parts_1_87d1 hrec_json_parser_value_67a1) json_parser_sign_b8e2 K (json_parser_list_0628_1_0_A hrec_json_parser_value_67a1 K n) d := by kernel_rfl
theorem json_parser_list_0628_1_0_A_zero {R : Type} (hrec_json_parser_value_67a1 : json_parser_value_67a1_ty R) (K : Ex → St → Option R) (d : json_parser_list_0628_1_0_D) : json_parser_list_0628_1_0_A hrec_json_parser_value_67a1 K 0 d = none := by kernel_rfl
theorem json_parser_list_0628_1_0_e_ok (x : Pat.dens json_parser_list_0628_1_0_p) (y : HPat.dens json_parser_list_0628_1_0_q) : (⟨Pat.encL json_parser_list_0628_1_0_p x, HPat.encL json_parser_list_0628_1_0_q y⟩ : St) = json_parser_list_0628_1_0_enc (json_parser_list_0628_1_0_d x y) := by kernel_rfl
theorem json_parser_list_0628_1_0_r_ok {R : Type} (hrec_json_parser_value_67a1 : json_parser_value_67a1_ty R) (x : Pat.dens json_parser_list_0628_1_0_p) (y : HPat.dens json_parser_list_0628_1_0_q) (K : Ex → St → Option R) : json_parser_list_0628_1_0_rr (json_parser_list_0628_1_0_L hrec_json_parser_value_67a1) x y K = json_parser_list_0628_1_0_A hrec_json_parser_value_67a1 K (json_parser_list_0628_1_0_f x y) (json_parser_list_0628_1_0_d x y) := by kernel_rfl
theorem json_parser_list_0628_1_0_ok {R : Type} (hrec_json_parser_value_67a1 : json_parser_value_67a1_ty R) (other : LSpec R) (ho : LsOk (tt.mode [.json]) (json_parser_list_0628_E R json_parser_fail_67a1 (json_parser_parts_1_87d1 hrec_json_parser_value_67a1) json_parser_sign_b8e2) (json_parser_list_0628_T R (json_parser_list_0628_1_0_L hrec_json_parser_value_67a1)) 5 ((loopsOf (codeOf Tryz.f88)).getD 0 .skip) json_parser_list_0628_1_0_h other) : LsOk (tt.mode [.json]) (json_parser_list_0628_E R json_parser_fail_67a1 (json_parser_parts_1_87d1 hrec_json_parser_value_67a1) json_parser_sign_b8e2) (json_parser_list_0628_T R (json_parser_list_0628_1_0_L hrec_json_parser_value_67a1)) 5 ((loopsOf (codeOf Tryz.f88)).getD 0 .skip) json_parser_list_0628_1_0_h (loopBy json_parser_list_0628_1_0_p json_parser_list_0628_1_0_q (json_parser_list_0628_1_0_rr (json_parser_list_0628_1_0_L hrec_json_parser_value_67a1)) other) :=
  loopBy_tie (A := json_parser_list_0628_1_0_A hrec_json_parser_value_67a1) ho (loop_tie json_parser_list_0628_1_0_enc (json_parser_list_0628_1_0_s json_parser_fail_67a1 (json_parser_parts_1_87d1 hrec_json_parser_value_67a1) json_parser_sign_b8e2) (json_parser_list_0628_1_0_A hrec_json_parser_value_67a1) (json_parser_list_0628_1_0_A_zero hrec_json_parser_value_67a1) (json_parser_list_0628_1_0_B_ok json_parser_fail_67a1 (json_parser_parts_1_87d1 hrec_json_parser_value_67a1) json_parser_sign_b8e2 (json_parser_list_0628_1_0_L hrec_json_parser_value_67a1)) (json_parser_list_0628_1_0_A_succ hrec_json_parser_value_67a1)) json_parser_list_0628_1_0_f json_parser_list_0628_1_0_d json_parser_list_0628_1_0_e_ok (json_parser_list_0628_1_0_r_ok hrec_json_parser_value_67a1)

noncomputable def json_parser_list_0628_X {R : Type} (json_parser_sign_b8e2 : json_parser_sign_b8e2_ty R) (json_parser_list_0628_1_0_L : json_parser_list_0628_1_0_ty R) (x1 : Str) (x2 : List Token) (x3 : Int) (x4 : Bool) (x5 : Int) (x6 : Int) (x7 : Int) (x8 : Str) (x9 : Int) (k0 : (List Token) → Int → Bool → Int → Int → Int → Str → Int → Option R) (k1 : (List Token) → Int → Bool → Int → Int → Int → Str → (List Str) → Nat → Int → (List Json) → Option R) : Option R :=
  json_parser_sign_b8e2 x1 x2 x3 (fun y10 y11 y12 => bif y10 then (k0 y11 y12 x4 x5 x6 x7 x8 x9) else (json_parser_list_0628_1_0_L (List.length x1 + List.length y11 + Int.natAbs y12 + Int.natAbs x5 + Int.natAbs x6 + Int.natAbs x7 + List.length x8 + List.length ([] : List Str) + Int.natAbs x9 + List.length ([] : List Json) + 64) x1 y11 y12 x4 x5 x6 x7 x8 ([] : List Str) 0 x9 ([] : List Json) (fun y113 y114 y115 y116 y117 y118 y119 y120 y121 y122 y123 => k1 y113 y114 y115 y116 y117 y118 y119 y120 y121 y122 y123)))
noncomputable def json_parser_list_0628 {R : Type} (hrec_json_parser_value_67a1 : json_parser_value_67a1_ty R) : json_parser_list_0628_ty R := fun x1 x2 x3 x4 x5 x6 x7 x8 x9 k0 k1 => json_parser_list_0628_X json_parser_sign_b8e2 (json_parser_list_0628_1_0_L hrec_json_parser_value_67a1) x1 x2 x3 x4 x5 x6 x7 x8 x9 k0 k1
theorem json_parser_list_0628_ok {R : Type} (json_parser_fail_67a1 : json_parser_fail_67a1_ty R) (json_parser_parts_1_87d1 : json_parser_parts_1_87d1_ty R) (json_parser_sign_b8e2 : json_parser_sign_b8e2_ty R) (json_parser_list_0628_1_0_L : json_parser_list_0628_1_0_ty R) (x1 : Str) (x2 : List Token) (x3 : Int) (x4 : Bool) (x5 : Int) (x6 : Int) (x7 : Int) (x8 : Str) (x9 : Int) (k : V → Heap → Option R) : funK (tt.mode [.json]) (json_parser_list_0628_E R json_parser_fail_67a1 json_parser_parts_1_87d1 json_parser_sign_b8e2) (json_parser_list_0628_T R json_parser_list_0628_1_0_L) false Tryz.f88 (codeOf Tryz.f88) [.ptr 0 0, .str x1, .func 89 [] [.ptr 1 0, .ptr 2 0, .ptr 3 0, .ptr 4 0]] [.cells [.sl .token x2 .no, .int .i64 x3], .cells [.bool x4], .cells [.int .i64 x5, .int .i64 x6, .int .i64 x7, .str x8, .nilsl, .nilsl], .cells [.ptr 0 0], .cells [.int .i64 x9]] k =
    json_parser_list_0628_X json_parser_sign_b8e2 json_parser_list_0628_1_0_L x1 x2 x3 x4 x5 x6 x7 x8 x9 (fun q0 q1 q2 q3 q4 q5 q6 q7 => k (.tuple []) [.cells [.sl .token q0 .no, .int .i64 q1], .cells [.bool q2], .cells [.int .i64 q3, .int .i64 q4, .int .i64 q5, .str q6, .nilsl, .nilsl], .cells [.ptr 0 0], .cells [.int .i64 q7]]) (fun q0 q1 q2 q3 q4 q5 q6 q7 q8 q9 q10 => k (.tuple []) [.cells [.sl .token q0 .no, .int .i64 q1], .cells [.bool q2], .cells [.int .i64 q3, .int .i64 q4, .int .i64 q5, .str q6, .sl .str q7 (.own 5), .row 6 q8], .cells [.ptr 0 0], .cells [.int .i64 q9], .tok, .row .json q10]) := by kernel_rfl
theorem json_parser_list_0628_loops (R : Type) (hrec_json_parser_value_67a1 : json_parser_value_67a1_ty R) : ∀ a ∈ loopsOf (codeOf Tryz.f88), LoopOk (tt.mode [.json]) (json_parser_list_0628_E R json_parser_fail_67a1 (json_parser_parts_1_87d1 hrec_json_parser_value_67a1) json_parser_sign_b8e2) (json_parser_list_0628_T R (json_parser_list_0628_1_0_L hrec_json_parser_value_67a1)) 5 a := by
  refine loops_ok 1 (by kernel_rfl) fun i hi => ?_
  match i, hi with
  | 0, _ => exact loopOk_some (by kernel_rfl) (json_parser_list_0628_1_0_ok hrec_json_parser_value_67a1 _ loopNo_ok)
  | n + 1, hi => omega
theorem json_parser_list_0628_S_ok (R : Type) (hrec_json_parser_value_67a1 : json_parser_value_67a1_ty R) (hyp_json_parser_value_67a1 : Yard.Spec.Ok Tryz.prog 42 (specBy json_parser_value_67a1_p json_parser_value_67a1_q (json_parser_value_67a1_rr hrec_json_parser_value_67a1) specNo)) (other : Yard.Spec R) (ho : Yard.Spec.Ok Tryz.prog 88 other) : Yard.Spec.Ok Tryz.prog 88 (specBy json_parser_list_0628_p json_parser_list_0628_q (json_parser_list_0628_rr (json_parser_list_0628 hrec_json_parser_value_67a1)) other) :=
  specBy_ok ho (funK_sound (TT.mode [.json]) mixed (json_parser_list_0628_EOk R hrec_json_parser_value_67a1 hyp_json_parser_value_67a1) (keep := false) rfl rfl rfl rfl 5 (json_parser_list_0628_loops R hrec_json_parser_value_67a1)) fun (x : Pat.dens json_parser_list_0628_p) (y : HPat.dens json_parser_list_0628_q) k => json_parser_list_0628_ok json_parser_fail_67a1 (json_parser_parts_1_87d1 hrec_json_parser_value_67a1) json_parser_sign_b8e2 (json_parser_list_0628_1_0_L hrec_json_parser_value_67a1) x.2.1 y.1.1 y.1.2.1 y.2.1.1 y.2.2.1.1 y.2.2.1.2.1 y.2.2.1.2.2.1 y.2.2.1.2.2.2.1 y.2.2.2.2.1.1 k

/-! ### (*humpyard/json.parser).parts -/
abbrev json_parser_parts_1dc4_ty (R : Type) : Type := Bool → Int → (List Token) → Int → (Json → (List Token) → Int → Option R) → Option R
abbrev json_parser_parts_1dc4_p : List Pat := [.leaf (.ptr 0 0), .leaf (.bool), .leaf (.int .i64)]
abbrev json_parser_parts_1dc4_q : List HPat := [.cells [.sl .token, .int .i64]]
noncomputable def json_parser_parts_1dc4_rr {R : Type} (fn : json_parser_parts_1dc4_ty R) : Pat.dens json_parser_parts_1dc4_p → HPat.dens json_parser_parts_1dc4_q → (V → Heap → Option R) → Option R := fun x y k => fn x.2.1 x.2.2.1 y.1.1 y.1.2.1 (fun q0 q1 q2 => k (.agg [.int .i64 q0.kind, .int .i64 q0.num.mant, .int .i64 q0.num.exp, .str q0.text, .sl .str q0.names .no, .sl .json q0.items .no]) [.cells [.sl .token q1 .no, .int .i64 q2]])
noncomputable def json_parser_parts_1dc4_E (R : Type) (json_parser_list_0628 : json_parser_list_0628_ty R) : Env R := fun i => match i with
  | 88 => some (false, (specBy json_parser_list_0628_p json_parser_list_0628_q (json_parser_list_0628_rr json_parser_list_0628) specNo))
  | _ => none
theorem json_parser_parts_1dc4_EOk (R : Type) (hrec_json_parser_value_67a1 : json_parser_value_67a1_ty R) (hyp_json_parser_value_67a1 : Yard.Spec.Ok Tryz.prog 42 (specBy json_parser_value_67a1_p json_parser_value_67a1_q (json_parser_value_67a1_rr hrec_json_parser_value_67a1) specNo)) : EOk Tryz.prog (json_parser_parts_1dc4_E R (json_parser_list_0628 hrec_json_parser_value_67a1)) := by
  intro i b sp h
  unfold json_parser_parts_1dc4_E at h
  split at h
  · cases h; exact ⟨(json_parser_list_0628_S_ok R hrec_json_parser_value_67a1 hyp_json_parser_value_67a1 _ (specNo_ok _)), fun _ h => nomatch h⟩
  · cases h

noncomputable def json_parser_parts_1dc4_T (R : Type) : Nat → Option (Hint × LSpec R) := fun i => match i with
  | _ => none

noncomputable def json_parser_parts_1dc4_X {R : Type} (json_parser_list_0628 : json_parser_list_0628_ty R) (x1 : Bool) (x2 : Int) (x3 : List Token) (x4 : Int) (k0 : Json → (List Token) → Int → Option R) : Option R :=
  bif x1 then (json_parser_list_0628 ([125] : Str) x3 x4 x1 7 0 0 ([] : Str) x2 (fun y5 y6 y7 y8 y9 y10 y11 y12 => k0 (⟨y8, ⟨y9, y10⟩, y11, ([] : List Str), ([] : List Json)⟩ : Json) y5 y6) (fun y13 y14 y15 y16 y17 y18 y19 y20 y21 y22 y23 => k0 (⟨y16, ⟨y17, y18⟩, y19, y20, y23⟩ : Json) y13 y14)) else (json_parser_list_0628 ([93] : Str) x3 x4 x1 6 0 0 ([] : Str) x2 (fun y24 y25 y26 y27 y28 y29 y30 y31 => k0 (⟨y27, ⟨y28, y29⟩, y30, ([] : List Str), ([] : List Json)⟩ : Json) y24 y25) (fun y32 y33 y34 y35 y36 y37 y38 y39 y40 y41 y42 => k0 (⟨y35, ⟨y36, y37⟩, y38, y39, y42⟩ : Json) y32 y33))
noncomputable def json_parser_parts_1dc4 {R : Type} (hrec_json_parser_value_67a1 : json_parser_value_67a1_ty R) : json_parser_parts_1dc4_ty R := fun x1 x2 x3 x4 k0 => json_parser_parts_1dc4_X (json_parser_list_0628 hrec_json_parser_value_67a1) x1 x2 x3 x4 k0
theorem json_parser_parts_1dc4_ok {R : Type} (json_parser_list_0628 : json_parser_list_0628_ty R) (x1 : Bool) (x2 : Int) (x3 : List Token) (x4 : Int) (k : V → Heap → Option R) : funK (tt.mode [.json]) (json_parser_parts_1dc4_E R json_parser_list_0628) (json_parser_parts_1dc4_T R) false Tryz.f64 (codeOf Tryz.f64) [.ptr 0 0, .bool x1, .int .i64 x2] [.cells [.sl .token x3 .no, .int .i64 x4]] k =
    json_parser_parts_1dc4_X json_parser_list_0628 x1 x2 x3 x4 (fun q0 q1 q2 => k (.agg [.int .i64 q0.kind, .int .i64 q0.num.mant, .int .i64 q0.num.exp, .str q0.text, .sl .str q0.names .no, .sl .json q0.items .no]) [.cells [.sl .token q1 .no, .int .i64 q2]]) := by kernel_rfl
theorem json_parser_parts_1dc4_loops (R : Type) (hrec_json_parser_value_67a1 : json_parser_value_67a1_ty R) : ∀ a ∈ loopsOf (codeOf Tryz.f64), LoopOk (tt.mode [.json]) (json_parser_parts_1dc4_E R (json_parser_list_0628 hrec_json_parser_value_67a1)) (json_parser_parts_1dc4_T R) 1 a := by
  refine loops_ok 0 (by kernel_rfl) fun i hi => ?_
  omega
theorem json_parser_parts_1dc4_S_ok (R : Type) (hrec_json_parser_value_67a1 : json_parser_value_67a1_ty R) (hyp_json_parser_value_67a1 : Yard.Spec.Ok Tryz.prog 42 (specBy json_parser_value_67a1_p json_parser_value_67a1_q (json_parser_value_67a1_rr hrec_json_parser_value_67a1) specNo)) (other : Yard.Spec R) (ho : Yard.Spec.Ok Tryz.prog 64 other) : Yard.Spec.Ok Tryz.prog 64 (specBy json_parser_parts_1dc4_p json_parser_parts_1dc4_q (json_parser_parts_1dc4_rr (json_parser_parts_1dc4 hrec_json_parser_value_67a1)) other) :=
  specBy_ok ho (funK_sound (TT.mode [.json]) mixed (json_parser_parts_1dc4_EOk R hrec_json_parser_value_67a1 hyp_json_parser_value_67a1) (keep := false) rfl rfl rfl rfl 1 (json_parser_parts_1dc4_loops R hrec_json_parser_value_67a1)) fun (x : Pat.dens json_parser_parts_1dc4_p) (y : HPat.dens json_parser_parts_1dc4_q) k => json_parser_parts_1dc4_ok (json_parser_list_0628 hrec_json_parser_value_67a1) x.2.1 x.2.2.1 y.1.1 y.1.2.1 k

noncomputable def json_parser_value_67a1_E (R : Type) (json_parser_fail_67a1 : json_parser_fail_67a1_ty R) (json_parser_parts_1dc4 : json_parser_parts_1dc4_ty R) : Env R := fun i => match i with
  | 43 => some (false, (specBy json_parser_fail_67a1_p json_parser_fail_67a1_q (json_parser_fail_67a1_rr json_parser_fail_67a1) specNo))
  | 64 => some (false, (specBy json_parser_parts_1dc4_p json_parser_parts_1dc4_q (json_parser_parts_1dc4_rr json_parser_parts_1dc4) specNo))
  | _ => none
theorem json_parser_value_67a1_EOk (R : Type) (hrec_json_parser_value_67a1 : json_parser_value_67a1_ty R) (hyp_json_parser_value_67a1 : Yard.Spec.Ok Tryz.prog 42 (specBy json_parser_value_67a1_p json_parser_value_67a1_q (json_parser_value_67a1_rr hrec_json_parser_value_67a1) specNo)) : EOk Tryz.prog (json_parser_value_67a1_E R json_parser_fail_67a1 (json_parser_parts_1dc4 hrec_json_parser_value_67a1)) := by
  intro i b sp h
  unfold json_parser_value_67a1_E at h
  split at h
  · cases h; exact ⟨(json_parser_fail_67a1_S_ok R _ (specNo_ok _)), fun _ h => nomatch h⟩
  · cases h; exact ⟨(json_parser_parts_1dc4_S_ok R hrec_json_parser_value_67a1 hyp_json_parser_value_67a1 _ (specNo_ok _)), fun _ h => nomatch h⟩
  · cases h

noncomputable def json_parser_value_67a1_T (R : Type) : Nat → Option (Hint × LSpec R) := fun i => match i with
  | _ => none

noncomputable def json_parser_value_67a1_X {R : Type} (json_parser_fail_67a1 : json_parser_fail_67a1_ty R) (json_parser_parts_1dc4 : json_parser_parts_1dc4_ty R) (x1 : Int) (x2 : List Token) (x3 : Int) (k0 : Json → (List Token) → Int → Option R) : Option R :=
  chk (decide ((0 : Int) < x2.length)) (let j20 := fun (z4 : Bool) => let j19 := fun (z9 : List Token) (z10 : Int) => bif (z10 != 0) then (k0 (⟨0, ⟨0, 0⟩, ([] : Str), ([] : List Str), ([] : List Json)⟩ : Json) z9 z10) else (chk (decide ((1 : Int) ≤ z9.length)) (let j18 := bif ((x2.getD 0 (Ty.dflt .token)).kind == 3) then (k0 (⟨4, ⟨(x2.getD 0 (Ty.dflt .token)).num.mant, (x2.getD 0 (Ty.dflt .token)).num.exp⟩, ([] : Str), ([] : List Str), ([] : List Json)⟩ : Json) (z9.drop 1) z10) else (k0 (⟨5, ⟨0, 0⟩, (x2.getD 0 (Ty.dflt .token)).text, ([] : List Str), ([] : List Json)⟩ : Json) (z9.drop 1) z10); let j17 := fun (z11 : Bool) => bif z11 then (bif ((x2.getD 0 (Ty.dflt .token)).kind == 1) then (json_parser_parts_1dc4 ((x2.getD 0 (Ty.dflt .token)).text == ([123] : Str)) x1 (z9.drop 1) z10 (fun y12 y13 y14 => k0 (⟨y12.kind, ⟨y12.num.mant, y12.num.exp⟩, y12.text, y12.names, y12.items⟩ : Json) y13 y14)) else (j18)) else (let j16 := fun (z15 : Bool) => bif z15 then (bif ((x2.getD 0 (Ty.dflt .token)).kind == 4) then (k0 (⟨((mapGet .str (.int .i64) ((x2.getD 0 (Ty.dflt .token)).text) ([(([110, 117, 108, 108] : Str), 1), (([102, 97, 108, 115, 101] : Str), 2), (([116, 114, 117, 101] : Str), 3)] : List (Str × Int))) : Int), ⟨0, 0⟩, ([] : Str), ([] : List Str), ([] : List Json)⟩ : Json) (z9.drop 1) z10) else (j18)) else (j18); bif ((x2.getD 0 (Ty.dflt .token)).text == ([110, 117, 108, 108] : Str)) then (j16 ((x2.getD 0 (Ty.dflt .token)).text == ([110, 117, 108, 108] : Str))) else (bif ((x2.getD 0 (Ty.dflt .token)).text == ([102, 97, 108, 115, 101] : Str)) then (j16 ((x2.getD 0 (Ty.dflt .token)).text == ([102, 97, 108, 115, 101] : Str))) else (j16 ((x2.getD 0 (Ty.dflt .token)).text == ([116, 114, 117, 101] : Str))))); bif ((x2.getD 0 (Ty.dflt .token)).text == ([91] : Str)) then (j17 ((x2.getD 0 (Ty.dflt .token)).text == ([91] : Str))) else (j17 ((x2.getD 0 (Ty.dflt .token)).text == ([123] : Str))))); bif (!z4) then (json_parser_fail_67a1 40 x2 x3 (fun y5 y6 => j19 y5 y6)) else (bif (decide (x1 > (16 : Int))) then (json_parser_fail_67a1 41 x2 x3 (fun y7 y8 => j19 y7 y8)) else (j19 x2 x3)); bif ((x2.getD 0 (Ty.dflt .token)).kind == 2) then (j20 true) else (bif ((x2.getD 0 (Ty.dflt .token)).kind == 3) then (j20 true) else (bif ((x2.getD 0 (Ty.dflt .token)).kind == 4) then (j20 true) else (bif ((x2.getD 0 (Ty.dflt .token)).kind == 1) then (bif ((x2.getD 0 (Ty.dflt .token)).text == ([91] : Str)) then (j20 true) else (j20 ((x2.getD 0 (Ty.dflt .token)).text == ([123] : Str)))) else (j20 false)))))
noncomputable def json_parser_value_67a1_B {R : Type} (hrec_json_parser_value_67a1 : json_parser_value_67a1_ty R) : json_parser_value_67a1_ty R := fun x1 x2 x3 k0 => json_parser_value_67a1_X json_parser_fail_67a1 (json_parser_parts_1dc4 hrec_json_parser_value_67a1) x1 x2 x3 k0
theorem json_parser_value_67a1_ok {R : Type} (json_parser_fail_67a1 : json_parser_fail_67a1_ty R) (json_parser_parts_1dc4 : json_parser_parts_1dc4_ty R) (x1 : Int) (x2 : List Token) (x3 : Int) (k : V → Heap → Option R) : funK (tt.mode [.json]) (json_parser_value_67a1_E R json_parser_fail_67a1 json_parser_parts_1dc4) (json_parser_value_67a1_T R) false Tryz.f42 (codeOf Tryz.f42) [.ptr 0 0, .int .i64 x1] [.cells [.sl .token x2 .no, .int .i64 x3]] k =
    json_parser_value_67a1_X json_parser_fail_67a1 json_parser_parts_1dc4 x1 x2 x3 (fun q0 q1 q2 => k (.agg [.int .i64 q0.kind, .int .i64 q0.num.mant, .int .i64 q0.num.exp, .str q0.text, .sl .str q0.names .no, .sl .json q0.items .no]) [.cells [.sl .token q1 .no, .int .i64 q2]]) := by kernel_rfl
theorem json_parser_value_67a1_loops (R : Type) (hrec_json_parser_value_67a1 : json_parser_value_67a1_ty R) : ∀ a ∈ loopsOf (codeOf Tryz.f42), LoopOk (tt.mode [.json]) (json_parser_value_67a1_E R json_parser_fail_67a1 (json_parser_parts_1dc4 hrec_json_parser_value_67a1)) (json_parser_value_67a1_T R) 1 a := by
  refine loops_ok 0 (by kernel_rfl) fun i hi => ?_
  omega
theorem json_parser_value_67a1_S_okB (R : Type) (hrec_json_parser_value_67a1 : json_parser_value_67a1_ty R) (hyp_json_parser_value_67a1 : Yard.Spec.Ok Tryz.prog 42 (specBy json_parser_value_67a1_p json_parser_value_67a1_q (json_parser_value_67a1_rr hrec_json_parser_value_67a1) specNo)) (other : Yard.Spec R) (ho : Yard.Spec.Ok Tryz.prog 42 other) : Yard.Spec.Ok Tryz.prog 42 (specBy json_parser_value_67a1_p json_parser_value_67a1_q (json_parser_value_67a1_rr (json_parser_value_67a1_B hrec_json_parser_value_67a1)) other) :=
  specBy_ok ho (funK_sound (TT.mode [.json]) mixed (json_parser_value_67a1_EOk R hrec_json_parser_value_67a1 hyp_json_parser_value_67a1) (keep := false) rfl rfl rfl rfl 1 (json_parser_value_67a1_loops R hrec_json_parser_value_67a1)) fun (x : Pat.dens json_parser_value_67a1_p) (y : HPat.dens json_parser_value_67a1_q) k => json_parser_value_67a1_ok json_parser_fail_67a1 (json_parser_parts_1dc4 hrec_json_parser_value_67a1) x.2.1 y.1.1 y.1.2.1 k
noncomputable def json_parser_value_67a1_N {R : Type} : Nat → json_parser_value_67a1_ty R
  | 0, _, _, _, _ => none
  | n + 1, x0', x1', x2', k0' => json_parser_value_67a1_B (json_parser_value_67a1_N n) x0' x1' x2' k0'
theorem json_parser_value_67a1_N_succ {R : Type} (n : Nat) : json_parser_value_67a1_N (R := R) (n + 1) = json_parser_value_67a1_B (json_parser_value_67a1_N n) := by kernel_rfl
theorem json_parser_value_67a1_N_ok (R : Type) : ∀ n, Yard.Spec.Ok Tryz.prog 42 (specBy json_parser_value_67a1_p json_parser_value_67a1_q (json_parser_value_67a1_rr (json_parser_value_67a1_N (R := R) n)) specNo) :=
  specBy_fuel (run := fun n => json_parser_value_67a1_rr (json_parser_value_67a1_N (R := R) n)) (fun x y k => by kernel_rfl) fun n hyp => json_parser_value_67a1_S_okB R (json_parser_value_67a1_N n) hyp specNo (specNo_ok _)
noncomputable def json_parser_value_67a1 {R : Type} : json_parser_value_67a1_ty R := fun x1 x2 x3 k0 => json_parser_value_67a1_N 40 x1 x2 x3 k0
theorem json_parser_value_67a1_r_ok (R : Type) : json_parser_value_67a1_rr (R := R) json_parser_value_67a1 = fun x y k => json_parser_value_67a1_rr (json_parser_value_67a1_N 40) x y k := by kernel_rfl
theorem json_parser_value_67a1_S_ok (R : Type) (other : Yard.Spec R) (ho : Yard.Spec.Ok Tryz.prog 42 other) : Yard.Spec.Ok Tryz.prog 42 (specBy json_parser_value_67a1_p json_parser_value_67a1_q (json_parser_value_67a1_rr json_parser_value_67a1) other) :=
  specBy_run (specBy_at (run := fun n => json_parser_value_67a1_rr (json_parser_value_67a1_N (R := R) n)) (fun x y => 40) ho (json_parser_value_67a1_N_ok R)) (json_parser_value_67a1_r_ok R)

end Go.Proofs.YtmlkkgfenfdndaaGreatDoor

/-
  Functions of the program as pure Lean functions, and the ties; printed by wip/tools/emit.py.
-/
set_option maxRecDepth 100000
set_option linter.unusedVariables false
namespace Go.Proofs.YtmlkkgfenfdndaaGreatDoor
open Go Go.Yard

/-! ### humpyard/json.Parse -/
abbrev json_Parse_ty (R : Type) : Type := Str → (Json → Int → Int → Option R) → Option R
abbrev json_Parse_p : List Pat := [.leaf (.str)]
abbrev json_Parse_q : List HPat := []
noncomputable def json_Parse_rr {R : Type} (fn : json_Parse_ty R) : Pat.dens json_Parse_p → HPat.dens json_Parse_q → (V → Heap → Option R) → Option R := fun x y k => fn x.1 (fun q0 q1 q2 => k (.tuple [.agg [.int .i64 q0.kind, .int .i64 q0.num.mant, .int .i64 q0.num.exp, .str q0.text, .sl .str q0.names .no, .sl .json q0.items .no], .int .i64 q1, .int .i64 q2]) [])
noncomputable def json_Parse_E (R : Type) (json_parser_fail_67a1 : json_parser_fail_67a1_ty R) (json_parser_value_67a1 : json_parser_value_67a1_ty R) (lexer_Scan : lexer_Scan_ty R) : Env R := fun i => match i with
  | 43 => some (false, (specBy json_parser_fail_67a1_p json_parser_fail_67a1_q (json_parser_fail_67a1_rr json_parser_fail_67a1) specNo))
  | 42 => some (false, (specBy json_parser_value_67a1_p json_parser_value_67a1_q (json_parser_value_67a1_rr json_parser_value_67a1) specNo))
  | 25 => some (true, (specBy lexer_Scan_p lexer_Scan_q (lexer_Scan_rr lexer_Scan) specNo))
  | _ => none
theorem json_Parse_EOk (R : Type) : EOk Tryz.prog (json_Parse_E R json_parser_fail_67a1 json_parser_value_67a1 lexer_Scan) := by
  intro i b sp h
  unfold json_Parse_E at h
  split at h
  · cases h; exact ⟨(json_parser_fail_67a1_S_ok R _ (specNo_ok _)), fun _ h => nomatch h⟩
  · cases h; exact ⟨(json_parser_value_67a1_S_ok R _ (specNo_ok _)), fun _ h => nomatch h⟩
  · cases h; exact ⟨(lexer_Scan_S_ok R _ (specNo_ok _)), fun h => nomatch h⟩
  · cases h

noncomputable def json_Parse_T (R : Type) : Nat → Option (Hint × LSpec R) := fun i => match i with
  | _ => none

noncomputable def json_Parse_X {R : Type} (json_parser_fail_67a1 : json_parser_fail_67a1_ty R) (json_parser_value_67a1 : json_parser_value_67a1_ty R) (lexer_Scan : lexer_Scan_ty R) (x1 : Str) (k0 : Json → Int → Int → Option R) : Option R :=
  lexer_Scan x1 (fun y2 y3 y4 => bif (y3 != 0) then (k0 (⟨0, ⟨0, 0⟩, ([] : Str), ([] : List Str), ([] : List Json)⟩ : Json) y3 y4) else (json_parser_value_67a1 1 y2 0 (fun y5 y6 y7 => let j12 := fun (z10 : List Token) (z11 : Int) => bif (z11 != 0) then (chk (decide ((0 : Int) < z10.length)) (k0 (⟨0, ⟨0, 0⟩, ([] : Str), ([] : List Str), ([] : List Json)⟩ : Json) z11 ((z10.getD 0 (Ty.dflt .token)).at_))) else (k0 (⟨y5.kind, ⟨y5.num.mant, y5.num.exp⟩, y5.text, y5.names, y5.items⟩ : Json) 0 0); chk (decide ((0 : Int) < y6.length)) (bif ((y6.getD 0 (Ty.dflt .token)).kind != 5) then (json_parser_fail_67a1 40 y6 y7 (fun y8 y9 => j12 y8 y9)) else (j12 y6 y7)))))
noncomputable def json_Parse {R : Type} : json_Parse_ty R := fun x1 k0 => json_Parse_X json_parser_fail_67a1 json_parser_value_67a1 lexer_Scan x1 k0
theorem json_Parse_ok {R : Type} (json_parser_fail_67a1 : json_parser_fail_67a1_ty R) (json_parser_value_67a1 : json_parser_value_67a1_ty R) (lexer_Scan : lexer_Scan_ty R) (x1 : Str) (k : V → Heap → Option R) : funK tt (json_Parse_E R json_parser_fail_67a1 json_parser_value_67a1 lexer_Scan) (json_Parse_T R) false Tryz.f20 (codeOf Tryz.f20) [.str x1] [] k =
    json_Parse_X json_parser_fail_67a1 json_parser_value_67a1 lexer_Scan x1 (fun q0 q1 q2 => k (.tuple [.agg [.int .i64 q0.kind, .int .i64 q0.num.mant, .int .i64 q0.num.exp, .str q0.text, .sl .str q0.names .no, .sl .json q0.items .no], .int .i64 q1, .int .i64 q2]) []) := by kernel_rfl
theorem json_Parse_loops (R : Type) : ∀ a ∈ loopsOf (codeOf Tryz.f20), LoopOk tt (json_Parse_E R json_parser_fail_67a1 json_parser_value_67a1 lexer_Scan) (json_Parse_T R) 0 a := by
  refine loops_ok 0 (by kernel_rfl) fun i hi => ?_
  omega
theorem json_Parse_S_ok (R : Type) (other : Yard.Spec R) (ho : Yard.Spec.Ok Tryz.prog 20 other) : Yard.Spec.Ok Tryz.prog 20 (specBy json_Parse_p json_Parse_q (json_Parse_rr json_Parse) other) :=
  specBy_ok ho (funK_sound TT mixed (json_Parse_EOk R) (keep := false) rfl rfl rfl rfl 0 (json_Parse_loops R)) fun (x : Pat.dens json_Parse_p) (y : HPat.dens json_Parse_q) k => json_Parse_ok json_parser_fail_67a1 json_parser_value_67a1 lexer_Scan x.1 k

/-! ### humpyard/json.bare -/
abbrev json_bare_ty (R : Type) : Type := Json → (Json → Option R) → Option R
abbrev json_bare_p : List Pat := [.agg [.int .i64, .int .i64, .int .i64, .str, .sl .str, .sl .json]]
abbrev json_bare_q : List HPat := []
noncomputable def json_bare_rr {R : Type} (fn : json_bare_ty R) : Pat.dens json_bare_p → HPat.dens json_bare_q → (V → Heap → Option R) → Option R := fun x y k => fn (⟨x.1.1, ⟨x.1.2.1, x.1.2.2.1⟩, x.1.2.2.2.1, x.1.2.2.2.2.1, x.1.2.2.2.2.2.1⟩ : Json) (fun q0 => k (.agg [.int .i64 q0.kind, .int .i64 q0.num.mant, .int .i64 q0.num.exp, .str q0.text, .sl .str q0.names .no, .sl .json q0.items .no]) [])
noncomputable def json_bare_E (R : Type) : Env R := fun i => match i with
  | _ => none
theorem json_bare_EOk (R : Type) : EOk Tryz.prog (json_bare_E R) := by
  intro i b sp h
  unfold json_bare_E at h
  split at h
  · cases h

noncomputable def json_bare_T (R : Type) : Nat → Option (Hint × LSpec R) := fun i => match i with
  | _ => none

noncomputable def json_bare_X {R : Type} (x1 : Json) (k0 : Json → Option R) : Option R :=
  bif (x1.kind == 4) then (k0 (⟨x1.kind, ⟨0, 0⟩, x1.text, x1.names, x1.items⟩ : Json)) else (bif (x1.kind == 5) then (k0 (⟨x1.kind, ⟨x1.num.mant, x1.num.exp⟩, ([] : Str), x1.names, x1.items⟩ : Json)) else (bif (x1.kind == 7) then (k0 (⟨x1.kind, ⟨x1.num.mant, x1.num.exp⟩, x1.text, ([] : List Str), ([] : List Json)⟩ : Json)) else (bif (x1.kind == 6) then (k0 (⟨x1.kind, ⟨x1.num.mant, x1.num.exp⟩, x1.text, x1.names, ([] : List Json)⟩ : Json)) else (k0 (⟨x1.kind, ⟨x1.num.mant, x1.num.exp⟩, x1.text, x1.names, x1.items⟩ : Json)))))
noncomputable def json_bare {R : Type} : json_bare_ty R := fun x1 k0 => json_bare_X x1 k0
theorem json_bare_ok {R : Type} (x1 : Json) (k : V → Heap → Option R) : funK tt (json_bare_E R) (json_bare_T R) false Tryz.f77 (codeOf Tryz.f77) [.agg [.int .i64 x1.kind, .int .i64 x1.num.mant, .int .i64 x1.num.exp, .str x1.text, .sl .str x1.names .no, .sl .json x1.items .no]] [] k =
    json_bare_X x1 (fun q0 => k (.agg [.int .i64 q0.kind, .int .i64 q0.num.mant, .int .i64 q0.num.exp, .str q0.text, .sl .str q0.names .no, .sl .json q0.items .no]) []) := by kernel_rfl
theorem json_bare_loops (R : Type) : ∀ a ∈ loopsOf (codeOf Tryz.f77), LoopOk tt (json_bare_E R) (json_bare_T R) 0 a := by
  refine loops_ok 0 (by kernel_rfl) fun i hi => ?_
  omega
theorem json_bare_S_ok (R : Type) (other : Yard.Spec R) (ho : Yard.Spec.Ok Tryz.prog 77 other) : Yard.Spec.Ok Tryz.prog 77 (specBy json_bare_p json_bare_q (json_bare_rr json_bare) other) :=
  specBy_ok ho (funK_sound TT mixed (json_bare_EOk R) (keep := false) rfl rfl rfl rfl 0 (json_bare_loops R)) fun (x : Pat.dens json_bare_p) (y : HPat.dens json_bare_q) k => json_bare_ok (⟨x.1.1, ⟨x.1.2.1, x.1.2.2.1⟩, x.1.2.2.2.1, x.1.2.2.2.2.1, x.1.2.2.2.2.2.1⟩ : Json) k

/-! ### humpyard/json.unique -/
abbrev json_unique_ty (R : Type) : Type := (List Str) → (Bool → Option R) → Option R
abbrev json_unique_p : List Pat := [.leaf (.sl .str)]
abbrev json_unique_q : List HPat := []
noncomputable def json_unique_rr {R : Type} (fn : json_unique_ty R) : Pat.dens json_unique_p → HPat.dens json_unique_q → (V → Heap → Option R) → Option R := fun x y k => fn x.1 (fun q0 => k (.bool q0) [])
abbrev json_unique_3_0_ty (R : Type) : Type := Nat → (List Str) → Int → Int → (List (Str × Bool)) → (Option R) → (Bool → Option R) → Option R
noncomputable def json_unique_E (R : Type) (quote_Whole : quote_Whole_ty R) : Env R := fun i => match i with
  | 49 => some (true, (specBy quote_Whole_p quote_Whole_q (quote_Whole_rr quote_Whole) specNo))
  | _ => none
theorem json_unique_EOk (R : Type) : EOk Tryz.prog (json_unique_E R quote_Whole) := by
  intro i b sp h
  unfold json_unique_E at h
  split at h
  · cases h; exact ⟨(quote_Whole_S_ok R _ (specNo_ok _)), fun h => nomatch h⟩
  · cases h

noncomputable def json_unique_3_0_B {R : Type} (quote_Whole : quote_Whole_ty R) (rec' : (List Str) → Int → Int → (List (Str × Bool)) → Option R) (x2 : List Str) (x3 : Int) (x4 : Int) (x5 : List (Str × Bool)) (e0 : Option R) (e1 : Bool → Option R) : Option R :=
  bif (decide (x4 < x3)) then (chk (decide ((0 : Int) ≤ x4) && decide (x4 < x2.length)) (bif (mapGet .str .bool (x2.getD x4.toNat (Ty.dflt .str)) x5) then (e1 false) else (quote_Whole (x2.getD x4.toNat (Ty.dflt .str)) (fun y6 => bif (!y6) then (e1 false) else (rec' x2 x3 (IntKind.i64.wrap (x4 + 1)) (mapPut .str .bool (x2.getD x4.toNat (Ty.dflt .str)) true x5)))))) else (e0)
noncomputable def json_unique_3_0_L {R : Type} : json_unique_3_0_ty R
  | 0, _, _, _, _, _, _ => none
  | n + 1, x0', x1', x2', x3', e0, e1 => json_unique_3_0_B quote_Whole (fun x0' x1' x2' x3' => json_unique_3_0_L n x0' x1' x2' x3' e0 e1) x0' x1' x2' x3' e0 e1
noncomputable def json_unique_3_0_h : Hint := { live := [3, 7, 8, 9], own := [], rows := [], cells := [], drop := [], out := [2] }
abbrev json_unique_3_0_D : Type := (List Str) × Int × Int × (List (Str × Bool))
noncomputable def json_unique_3_0_enc : json_unique_3_0_D → St := fun d => ⟨[.undef, .undef, .undef, .map 0, .undef, .undef, .undef, .sl .str d.1 .no, .int .i64 d.2.1, .int .i64 d.2.2.1, .undef, .undef, .undef, .undef, .undef, .undef, .undef, .undef, .undef, .undef, .undef, .undef, .undef, .undef], [.amap .str .bool d.2.2.2]⟩
noncomputable def json_unique_3_0_x0 {R : Type} (K : Ex → St → Option R) : Option R := K (.exit 0) ⟨[.undef, .undef, .undef, .undef, .undef, .undef, .undef, .undef, .undef, .undef, .undef, .undef, .undef, .undef, .undef, .undef, .undef, .undef, .undef, .undef, .undef, .undef, .undef, .undef], []⟩
noncomputable def json_unique_3_0_x1 {R : Type} (K : Ex → St → Option R) (q0 : Bool) : Option R := K (.ret) ⟨[.undef, .undef, .bool q0, .undef, .undef, .undef, .undef, .undef, .undef, .undef, .undef, .undef, .undef, .undef, .undef, .undef, .undef, .undef, .undef, .undef, .undef, .undef, .undef, .undef], []⟩
noncomputable def json_unique_3_0_s {R : Type} (quote_Whole : quote_Whole_ty R) (K : Ex → St → Option R) (rc : json_unique_3_0_D → Option R) (d : json_unique_3_0_D) : Option R := json_unique_3_0_B quote_Whole (fun z0 z1 z2 z3 => rc (z0, z1, z2, z3)) d.1 d.2.1 d.2.2.1 d.2.2.2 (json_unique_3_0_x0 K) (json_unique_3_0_x1 K)
noncomputable def json_unique_3_0_A {R : Type} (K : Ex → St → Option R) (n : Nat) (d : json_unique_3_0_D) : Option R := json_unique_3_0_L n d.1 d.2.1 d.2.2.1 d.2.2.2 (json_unique_3_0_x0 K) (json_unique_3_0_x1 K)
abbrev json_unique_3_0_p : List Pat := [.leaf (.undef), .leaf (.undef), .leaf (.undef), .leaf (.map 0), .leaf (.undef), .leaf (.undef), .leaf (.undef), .leaf (.sl .str), .leaf (.int .i64), .leaf (.int .i64), .leaf (.undef), .leaf (.undef), .leaf (.undef), .leaf (.undef), .leaf (.undef), .leaf (.undef), .leaf (.undef), .leaf (.undef), .leaf (.undef), .leaf (.undef), .leaf (.undef), .leaf (.undef), .leaf (.undef), .leaf (.undef)]
abbrev json_unique_3_0_q : List HPat := [.amap .str .bool]
noncomputable def json_unique_3_0_f (x : Pat.dens json_unique_3_0_p) (y : HPat.dens json_unique_3_0_q) : Nat := (List.length x.2.2.2.2.2.2.2.1 + Int.natAbs x.2.2.2.2.2.2.2.2.1 + Int.natAbs x.2.2.2.2.2.2.2.2.2.1 + List.length y.1 + 64)
noncomputable def json_unique_3_0_d (x : Pat.dens json_unique_3_0_p) (y : HPat.dens json_unique_3_0_q) : json_unique_3_0_D := (x.2.2.2.2.2.2.2.1, x.2.2.2.2.2.2.2.2.1, x.2.2.2.2.2.2.2.2.2.1, y.1)
noncomputable def json_unique_3_0_rr {R : Type} (L : json_unique_3_0_ty R) : Pat.dens json_unique_3_0_p → HPat.dens json_unique_3_0_q → (Ex → St → Option R) → Option R := fun x y K => L (json_unique_3_0_f x y) x.2.2.2.2.2.2.2.1 x.2.2.2.2.2.2.2.2.1 x.2.2.2.2.2.2.2.2.2.1 y.1 (json_unique_3_0_x0 K) (json_unique_3_0_x1 K)
noncomputable def json_unique_T (R : Type) (json_unique_3_0_L : json_unique_3_0_ty R) : Nat → Option (Hint × LSpec R) := fun i => match i with
  | 3 => some (json_unique_3_0_h, (loopBy json_unique_3_0_p json_unique_3_0_q (json_unique_3_0_rr json_unique_3_0_L) loopNo))
  | _ => none

theorem json_unique_3_0_B_ok {R : Type} (quote_Whole : quote_Whole_ty R) (json_unique_3_0_L : json_unique_3_0_ty R) (K : Ex → St → Option R) (rc : St → Option R) (d : json_unique_3_0_D) : roundOf tt (json_unique_E R quote_Whole) (json_unique_T R json_unique_3_0_L) 0 ((loopsOf (codeOf Tryz.f78)).getD 0 .skip) json_unique_3_0_h (json_unique_3_0_enc d) rc K = json_unique_3_0_s quote_Whole K (fun d => rc (json_unique_3_0_enc d)) d := by kernel_rfl
theorem json_unique_3_0_A_succ {R : Type} (K : Ex → St → Option R) (n : Nat) (d : json_unique_3_0_D) : json_unique_3_0_A K (n + 1) d = json_unique_3_0_s quote_Whole K (json_unique_3_0_A K n) d := by kernel_rfl
theorem json_unique_3_0_A_zero {R : Type} (K : Ex → St → Option R) (d : json_unique_3_0_D) : json_unique_3_0_A K 0 d = none := by kernel_rfl
theorem json_unique_3_0_e_ok (x : Pat.dens json_unique_3_0_p) (y : HPat.dens json_unique_3_0_q) : (⟨Pat.encL json_unique_3_0_p x, HPat.encL json_unique_3_0_q y⟩ : St) = json_unique_3_0_enc (json_unique_3_0_d x y) := by kernel_rfl
theorem json_unique_3_0_r_ok {R : Type} (x : Pat.dens json_unique_3_0_p) (y : HPat.dens json_unique_3_0_q) (K : Ex → St → Option R) : json_unique_3_0_rr (json_unique_3_0_L) x y K = json_unique_3_0_A K (json_unique_3_0_f x y) (json_unique_3_0_d x y) := by kernel_rfl
theorem json_unique_3_0_ok {R : Type} (other : LSpec R) (ho : LsOk tt (json_unique_E R quote_Whole) (json_unique_T R json_unique_3_0_L) 0 ((loopsOf (codeOf Tryz.f78)).getD 0 .skip) json_unique_3_0_h other) : LsOk tt (json_unique_E R quote_Whole) (json_unique_T R json_unique_3_0_L) 0 ((loopsOf (codeOf Tryz.f78)).getD 0 .skip) json_unique_3_0_h (loopBy json_unique_3_0_p json_unique_3_0_q (json_unique_3_0_rr (json_unique_3_0_L)) other) :=
  loopBy_tie (A := json_unique_3_0_A) ho (loop_tie json_unique_3_0_enc (json_unique_3_0_s quote_Whole) (json_unique_3_0_A) (json_unique_3_0_A_zero) (json_unique_3_0_B_ok quote_Whole json_unique_3_0_L) (json_unique_3_0_A_succ)) json_unique_3_0_f json_unique_3_0_d json_unique_3_0_e_ok (json_unique_3_0_r_ok)

noncomputable def json_unique_X {R : Type} (json_unique_3_0_L : json_unique_3_0_ty R) (x1 : List Str) (k0 : Bool → Option R) : Option R :=
  json_unique_3_0_L (List.length x1 + Int.natAbs (x1.length : Int) + Int.natAbs 0 + List.length ([] : List (Str × Bool)) + 64) x1 (x1.length : Int) 0 ([] : List (Str × Bool)) (k0 true) (fun y8 => k0 y8)
noncomputable def json_unique {R : Type} : json_unique_ty R := fun x1 k0 => json_unique_X json_unique_3_0_L x1 k0
theorem json_unique_ok {R : Type} (quote_Whole : quote_Whole_ty R) (json_unique_3_0_L : json_unique_3_0_ty R) (x1 : List Str) (k : V → Heap → Option R) : funK tt (json_unique_E R quote_Whole) (json_unique_T R json_unique_3_0_L) false Tryz.f78 (codeOf Tryz.f78) [.sl .str x1 .no] [] k =
    json_unique_X json_unique_3_0_L x1 (fun q0 => k (.bool q0) []) := by kernel_rfl
theorem json_unique_loops (R : Type) : ∀ a ∈ loopsOf (codeOf Tryz.f78), LoopOk tt (json_unique_E R quote_Whole) (json_unique_T R json_unique_3_0_L) 0 a := by
  refine loops_ok 1 (by kernel_rfl) fun i hi => ?_
  match i, hi with
  | 0, _ => exact loopOk_some (by kernel_rfl) (json_unique_3_0_ok _ loopNo_ok)
  | n + 1, hi => omega
theorem json_unique_S_ok (R : Type) (other : Yard.Spec R) (ho : Yard.Spec.Ok Tryz.prog 78 other) : Yard.Spec.Ok Tryz.prog 78 (specBy json_unique_p json_unique_q (json_unique_rr json_unique) other) :=
  specBy_ok ho (funK_sound TT mixed (json_unique_EOk R) (keep := false) rfl rfl rfl rfl 0 (json_unique_loops R)) fun (x : Pat.dens json_unique_p) (y : HPat.dens json_unique_q) k => json_unique_ok quote_Whole json_unique_3_0_L x.1 k

end Go.Proofs.YtmlkkgfenfdndaaGreatDoor

/-
  Functions of the program as pure Lean functions, and the ties; printed by wip/tools/emit.py.
-/
set_option maxRecDepth 100000
set_option linter.unusedVariables false
namespace Go.Proofs.YtmlkkgfenfdndaaGreatDoor
open Go Go.Yard

/-! ### humpyard/json.right -/
abbrev json_right_ty (R : Type) : Type := Json → Int → (Bool → Option R) → Option R
abbrev json_right_p : List Pat := [.agg [.int .i64, .int .i64, .int .i64, .str, .sl .str, .sl .json], .leaf (.int .i64)]
abbrev json_right_q : List HPat := []
noncomputable def json_right_rr {R : Type} (fn : json_right_ty R) : Pat.dens json_right_p → HPat.dens json_right_q → (V → Heap → Option R) → Option R := fun x y k => fn (⟨x.1.1, ⟨x.1.2.1, x.1.2.2.1⟩, x.1.2.2.2.1, x.1.2.2.2.2.1, x.1.2.2.2.2.2.1⟩ : Json) x.2.1 (fun q0 => k (.bool q0) [])
/-! ### humpyard/json.right$1 -/
abbrev json_right_1_f2f0_ty (R : Type) : Type := Json → Int → (Bool → Int → Option R) → Option R
abbrev json_right_1_f2f0_p : List Pat := [.agg [.int .i64, .int .i64, .int .i64, .str, .sl .str, .sl .json], .leaf (.ptr 0 0)]
abbrev json_right_1_f2f0_q : List HPat := [.cells [.int .i64]]
noncomputable def json_right_1_f2f0_rr {R : Type} (fn : json_right_1_f2f0_ty R) : Pat.dens json_right_1_f2f0_p → HPat.dens json_right_1_f2f0_q → (V → Heap → Option R) → Option R := fun x y k => fn (⟨x.1.1, ⟨x.1.2.1, x.1.2.2.1⟩, x.1.2.2.2.1, x.1.2.2.2.2.1, x.1.2.2.2.2.2.1⟩ : Json) y.1.1 (fun q0 q1 => k (.bool q0) [.cells [.int .i64 q1]])
noncomputable def json_right_1_f2f0_E (R : Type) (hrec_json_right : json_right_ty R) : Env R := fun i => match i with
  | 56 => some (true, (specBy json_right_p json_right_q (json_right_rr hrec_json_right) specNo))
  | _ => none
theorem json_right_1_f2f0_EOk (R : Type) (hrec_json_right : json_right_ty R) (hyp_json_right : Yard.Spec.Ok Tryz.prog 56 (specBy json_right_p json_right_q (json_right_rr hrec_json_right) specNo)) : EOk Tryz.prog (json_right_1_f2f0_E R hrec_json_right) := by
  intro i b sp h
  unfold json_right_1_f2f0_E at h
  split at h
  · cases h; exact ⟨hyp_json_right, fun h => nomatch h⟩
  · cases h

noncomputable def json_right_1_f2f0_T (R : Type) : Nat → Option (Hint × LSpec R) := fun i => match i with
  | _ => none

noncomputable def json_right_1_f2f0_X {R : Type} (hrec_json_right : json_right_ty R) (x1 : Json) (x2 : Int) (k0 : Bool → Int → Option R) : Option R :=
  hrec_json_right (⟨x1.kind, ⟨x1.num.mant, x1.num.exp⟩, x1.text, x1.names, x1.items⟩ : Json) (IntKind.i64.wrap (x2 + 1)) (fun y3 => k0 (!y3) x2)
noncomputable def json_right_1_f2f0 {R : Type} (hrec_json_right : json_right_ty R) : json_right_1_f2f0_ty R := fun x1 x2 k0 => json_right_1_f2f0_X hrec_json_right x1 x2 k0
theorem json_right_1_f2f0_ok {R : Type} (hrec_json_right : json_right_ty R) (x1 : Json) (x2 : Int) (k : V → Heap → Option R) : funK tt (json_right_1_f2f0_E R hrec_json_right) (json_right_1_f2f0_T R) false Tryz.f80 (codeOf Tryz.f80) [.agg [.int .i64 x1.kind, .int .i64 x1.num.mant, .int .i64 x1.num.exp, .str x1.text, .sl .str x1.names .no, .sl .json x1.items .no], .ptr 0 0] [.cells [.int .i64 x2]] k =
    json_right_1_f2f0_X hrec_json_right x1 x2 (fun q0 q1 => k (.bool q0) [.cells [.int .i64 q1]]) := by kernel_rfl
theorem json_right_1_f2f0_loops (R : Type) (hrec_json_right : json_right_ty R) : ∀ a ∈ loopsOf (codeOf Tryz.f80), LoopOk tt (json_right_1_f2f0_E R hrec_json_right) (json_right_1_f2f0_T R) 1 a := by
  refine loops_ok 0 (by kernel_rfl) fun i hi => ?_
  omega
theorem json_right_1_f2f0_S_ok (R : Type) (hrec_json_right : json_right_ty R) (hyp_json_right : Yard.Spec.Ok Tryz.prog 56 (specBy json_right_p json_right_q (json_right_rr hrec_json_right) specNo)) (other : Yard.Spec R) (ho : Yard.Spec.Ok Tryz.prog 80 other) : Yard.Spec.Ok Tryz.prog 80 (specBy json_right_1_f2f0_p json_right_1_f2f0_q (json_right_1_f2f0_rr (json_right_1_f2f0 hrec_json_right)) other) :=
  specBy_ok ho (funK_sound TT mixed (json_right_1_f2f0_EOk R hrec_json_right hyp_json_right) (keep := false) rfl rfl rfl rfl 1 (json_right_1_f2f0_loops R hrec_json_right)) fun (x : Pat.dens json_right_1_f2f0_p) (y : HPat.dens json_right_1_f2f0_q) k => json_right_1_f2f0_ok hrec_json_right (⟨x.1.1, ⟨x.1.2.1, x.1.2.2.1⟩, x.1.2.2.2.1, x.1.2.2.2.2.1, x.1.2.2.2.2.2.1⟩ : Json) y.1.1 k

/-! ### slices.IndexFunc[[]humpyard/api.Json,humpyard/api.Json] -/
abbrev slices_IndexFunc_JsonJson_806e_ty (R : Type) : Type := (List Json) → Int → (Int → Int → Option R) → Option R
abbrev slices_IndexFunc_JsonJson_806e_p : List Pat := [.leaf (.sl .json), .func 80 [] [.ptr 0 0]]
abbrev slices_IndexFunc_JsonJson_806e_q : List HPat := [.cells [.int .i64]]
noncomputable def slices_IndexFunc_JsonJson_806e_rr {R : Type} (fn : slices_IndexFunc_JsonJson_806e_ty R) : Pat.dens slices_IndexFunc_JsonJson_806e_p → HPat.dens slices_IndexFunc_JsonJson_806e_q → (V → Heap → Option R) → Option R := fun x y k => fn x.1 y.1.1 (fun q0 q1 => k (.int .i64 q0) [.cells [.int .i64 q1]])
abbrev slices_IndexFunc_JsonJson_806e_2_0_ty (R : Type) : Type := Nat → (List Json) → Int → Int → Int → (Int → Option R) → (Int → Int → Option R) → Option R
noncomputable def slices_IndexFunc_JsonJson_806e_E (R : Type) (json_right_1_f2f0 : json_right_1_f2f0_ty R) : Env R := fun i => match i with
  | 80 => some (false, (specBy json_right_1_f2f0_p json_right_1_f2f0_q (json_right_1_f2f0_rr json_right_1_f2f0) specNo))
  | _ => none
theorem slices_IndexFunc_JsonJson_806e_EOk (R : Type) (hrec_json_right : json_right_ty R) (hyp_json_right : Yard.Spec.Ok Tryz.prog 56 (specBy json_right_p json_right_q (json_right_rr hrec_json_right) specNo)) : EOk Tryz.prog (slices_IndexFunc_JsonJson_806e_E R (json_right_1_f2f0 hrec_json_right)) := by
  intro i b sp h
  unfold slices_IndexFunc_JsonJson_806e_E at h
  split at h
  · cases h; exact ⟨(json_right_1_f2f0_S_ok R hrec_json_right hyp_json_right _ (specNo_ok _)), fun _ h => nomatch h⟩
  · cases h

noncomputable def slices_IndexFunc_JsonJson_806e_2_0_B {R : Type} (json_right_1_f2f0 : json_right_1_f2f0_ty R) (rec' : (List Json) → Int → Int → Int → Option R) (x3 : List Json) (x4 : Int) (x5 : Int) (x6 : Int) (e0 : Int → Option R) (e1 : Int → Int → Option R) : Option R :=
  bif (decide (x5 < x4)) then (chk (decide ((0 : Int) ≤ x5) && decide (x5 < x3.length)) (json_right_1_f2f0 (⟨(x3.getD x5.toNat (Ty.dflt .json)).kind, ⟨(x3.getD x5.toNat (Ty.dflt .json)).num.mant, (x3.getD x5.toNat (Ty.dflt .json)).num.exp⟩, (x3.getD x5.toNat (Ty.dflt .json)).text, (x3.getD x5.toNat (Ty.dflt .json)).names, (x3.getD x5.toNat (Ty.dflt .json)).items⟩ : Json) x6 (fun y7 y8 => bif y7 then (e1 x5 y8) else (rec' x3 x4 (IntKind.i64.wrap (x5 + 1)) y8)))) else (e0 x6)
noncomputable def slices_IndexFunc_JsonJson_806e_2_0_L {R : Type} (hrec_json_right : json_right_ty R) : slices_IndexFunc_JsonJson_806e_2_0_ty R
  | 0, _, _, _, _, _, _ => none
  | n + 1, x0', x1', x2', x3', e0, e1 => slices_IndexFunc_JsonJson_806e_2_0_B (json_right_1_f2f0 hrec_json_right) (fun x0' x1' x2' x3' => slices_IndexFunc_JsonJson_806e_2_0_L hrec_json_right n x0' x1' x2' x3' e0 e1) x0' x1' x2' x3' e0 e1
noncomputable def slices_IndexFunc_JsonJson_806e_2_0_h : Hint := { live := [0, 1, 7, 8], own := [], rows := [], cells := [], drop := [], out := [4] }
abbrev slices_IndexFunc_JsonJson_806e_2_0_D : Type := (List Json) × Int × Int × Int
noncomputable def slices_IndexFunc_JsonJson_806e_2_0_enc : slices_IndexFunc_JsonJson_806e_2_0_D → St := fun d => ⟨[.sl .json d.1 .no, .func 80 [] [.ptr 0 0], .undef, .undef, .undef, .undef, .undef, .int .i64 d.2.1, .int .i64 d.2.2.1, .undef, .undef, .undef, .undef, .undef, .undef, .undef, .undef, .undef, .undef], [.cells [.int .i64 d.2.2.2]]⟩
noncomputable def slices_IndexFunc_JsonJson_806e_2_0_x0 {R : Type} (K : Ex → St → Option R) (q0 : Int) : Option R := K (.exit 0) ⟨[.undef, .undef, .undef, .undef, .undef, .undef, .undef, .undef, .undef, .undef, .undef, .undef, .undef, .undef, .undef, .undef, .undef, .undef, .undef], [.cells [.int .i64 q0]]⟩
noncomputable def slices_IndexFunc_JsonJson_806e_2_0_x1 {R : Type} (K : Ex → St → Option R) (q0 : Int) (q1 : Int) : Option R := K (.ret) ⟨[.undef, .undef, .undef, .undef, .int .i64 q0, .undef, .undef, .undef, .undef, .undef, .undef, .undef, .undef, .undef, .undef, .undef, .undef, .undef, .undef], [.cells [.int .i64 q1]]⟩
noncomputable def slices_IndexFunc_JsonJson_806e_2_0_s {R : Type} (json_right_1_f2f0 : json_right_1_f2f0_ty R) (K : Ex → St → Option R) (rc : slices_IndexFunc_JsonJson_806e_2_0_D → Option R) (d : slices_IndexFunc_JsonJson_806e_2_0_D) : Option R := slices_IndexFunc_JsonJson_806e_2_0_B json_right_1_f2f0 (fun z0 z1 z2 z3 => rc (z0, z1, z2, z3)) d.1 d.2.1 d.2.2.1 d.2.2.2 (slices_IndexFunc_JsonJson_806e_2_0_x0 K) (slices_IndexFunc_JsonJson_806e_2_0_x1 K)
noncomputable def slices_IndexFunc_JsonJson_806e_2_0_A {R : Type} (hrec_json_right : json_right_ty R) (K : Ex → St → Option R) (n : Nat) (d : slices_IndexFunc_JsonJson_806e_2_0_D) : Option R := slices_IndexFunc_JsonJson_806e_2_0_L hrec_json_right n d.1 d.2.1 d.2.2.1 d.2.2.2 (slices_IndexFunc_JsonJson_806e_2_0_x0 K) (slices_IndexFunc_JsonJson_806e_2_0_x1 K)
abbrev slices_IndexFunc_JsonJson_806e_2_0_p : List Pat := [.leaf (.sl .json), .func 80 [] [.ptr 0 0], .leaf (.undef), .leaf (.undef), .leaf (.undef), .leaf (.undef), .leaf (.undef), .leaf (.int .i64), .leaf (.int .i64), .leaf (.undef), .leaf (.undef), .leaf (.undef), .leaf (.undef), .leaf (.undef), .leaf (.undef), .leaf (.undef), .leaf (.undef), .leaf (.undef), .leaf (.undef)]
abbrev slices_IndexFunc_JsonJson_806e_2_0_q : List HPat := [.cells [.int .i64]]
noncomputable def slices_IndexFunc_JsonJson_806e_2_0_f (x : Pat.dens slices_IndexFunc_JsonJson_806e_2_0_p) (y : HPat.dens slices_IndexFunc_JsonJson_806e_2_0_q) : Nat := (List.length x.1 + Int.natAbs x.2.2.2.2.2.2.2.1 + Int.natAbs x.2.2.2.2.2.2.2.2.1 + Int.natAbs y.1.1 + 64)
noncomputable def slices_IndexFunc_JsonJson_806e_2_0_d (x : Pat.dens slices_IndexFunc_JsonJson_806e_2_0_p) (y : HPat.dens slices_IndexFunc_JsonJson_806e_2_0_q) : slices_IndexFunc_JsonJson_806e_2_0_D := (x.1, x.2.2.2.2.2.2.2.1, x.2.2.2.2.2.2.2.2.1, y.1.1)
noncomputable def slices_IndexFunc_JsonJson_806e_2_0_rr {R : Type} (L : slices_IndexFunc_JsonJson_806e_2_0_ty R) : Pat.dens slices_IndexFunc_JsonJson_806e_2_0_p → HPat.dens slices_IndexFunc_JsonJson_806e_2_0_q → (Ex → St → Option R) → Option R := fun x y K => L (slices_IndexFunc_JsonJson_806e_2_0_f x y) x.1 x.2.2.2.2.2.2.2.1 x.2.2.2.2.2.2.2.2.1 y.1.1 (slices_IndexFunc_JsonJson_806e_2_0_x0 K) (slices_IndexFunc_JsonJson_806e_2_0_x1 K)
noncomputable def slices_IndexFunc_JsonJson_806e_T (R : Type) (slices_IndexFunc_JsonJson_806e_2_0_L : slices_IndexFunc_JsonJson_806e_2_0_ty R) : Nat → Option (Hint × LSpec R) := fun i => match i with
  | 2 => some (slices_IndexFunc_JsonJson_806e_2_0_h, (loopBy slices_IndexFunc_JsonJson_806e_2_0_p slices_IndexFunc_JsonJson_806e_2_0_q (slices_IndexFunc_JsonJson_806e_2_0_rr slices_IndexFunc_JsonJson_806e_2_0_L) loopNo))
  | _ => none

theorem slices_IndexFunc_JsonJson_806e_2_0_B_ok {R : Type} (json_right_1_f2f0 : json_right_1_f2f0_ty R) (slices_IndexFunc_JsonJson_806e_2_0_L : slices_IndexFunc_JsonJson_806e_2_0_ty R) (K : Ex → St → Option R) (rc : St → Option R) (d : slices_IndexFunc_JsonJson_806e_2_0_D) : roundOf tt (slices_IndexFunc_JsonJson_806e_E R json_right_1_f2f0) (slices_IndexFunc_JsonJson_806e_T R slices_IndexFunc_JsonJson_806e_2_0_L) 1 ((loopsOf (codeOf Tryz.f116)).getD 0 .skip) slices_IndexFunc_JsonJson_806e_2_0_h (slices_IndexFunc_JsonJson_806e_2_0_enc d) rc K = slices_IndexFunc_JsonJson_806e_2_0_s json_right_1_f2f0 K (fun d => rc (slices_IndexFunc_JsonJson_806e_2_0_enc d)) d := by kernel_rfl
theorem slices_IndexFunc_JsonJson_806e_2_0_A_succ {R : Type} (hrec_json_right : json_right_ty R) (K : Ex → St → Option R) (n : Nat) (d : slices_IndexFunc_JsonJson_806e_2_0_D) : slices_IndexFunc_JsonJson_806e_2_0_A hrec_json_right K (n + 1) d = slices_IndexFunc_JsonJson_806e_2_0_s (json_right_1_f2f0 hrec_json_right) K (slices_IndexFunc_JsonJson_806e_2_0_A hrec_json_right K n) d := by kernel_rfl
theorem slices_IndexFunc_JsonJson_806e_2_0_A_zero {R : Type} (hrec_json_right : json_right_ty R) (K : Ex → St → Option R) (d : slices_IndexFunc_JsonJson_806e_2_0_D) : slices_IndexFunc_JsonJson_806e_2_0_A hrec_json_right K 0 d = none := by kernel_rfl
theorem slices_IndexFunc_JsonJson_806e_2_0_e_ok (x : Pat.dens slices_IndexFunc_JsonJson_806e_2_0_p) (y : HPat.dens slices_IndexFunc_JsonJson_806e_2_0_q) : (⟨Pat.encL slices_IndexFunc_JsonJson_806e_2_0_p x, HPat.encL slices_IndexFunc_JsonJson_806e_2_0_q y⟩ : St) = slices_IndexFunc_JsonJson_806e_2_0_enc (slices_IndexFunc_JsonJson_806e_2_0_d x y) := by kernel_rfl
theorem slices_IndexFunc_JsonJson_806e_2_0_r_ok {R : Type} (hrec_json_right : json_right_ty R) (x : Pat.dens slices_IndexFunc_JsonJson_806e_2_0_p) (y : HPat.dens slices_IndexFunc_JsonJson_806e_2_0_q) (K : Ex → St → Option R) : slices_IndexFunc_JsonJson_806e_2_0_rr (slices_IndexFunc_JsonJson_806e_2_0_L hrec_json_right) x y K = slices_IndexFunc_JsonJson_806e_2_0_A hrec_json_right K (slices_IndexFunc_JsonJson_806e_2_0_f x y) (slices_IndexFunc_JsonJson_806e_2_0_d x y) := by kernel_rfl
theorem slices_IndexFunc_JsonJson_806e_2_0_ok {R : Type} (hrec_json_right : json_right_ty R) (other : LSpec R) (ho : LsOk tt (slices_IndexFunc_JsonJson_806e_E R (json_right_1_f2f0 hrec_json_right)) (slices_IndexFunc_JsonJson_806e_T R (slices_IndexFunc_JsonJson_806e_2_0_L hrec_json_right)) 1 ((loopsOf (codeOf Tryz.f116)).getD 0 .skip) slices_IndexFunc_JsonJson_806e_2_0_h other) : LsOk tt (slices_IndexFunc_JsonJson_806e_E R (json_right_1_f2f0 hrec_json_right)) (slices_IndexFunc_JsonJson_806e_T R (slices_IndexFunc_JsonJson_806e_2_0_L hrec_json_right)) 1 ((loopsOf (codeOf Tryz.f116)).getD 0 .skip) slices_IndexFunc_JsonJson_806e_2_0_h (loopBy slices_IndexFunc_JsonJson_806e_2_0_p slices_IndexFunc_JsonJson_806e_2_0_q (slices_IndexFunc_JsonJson_806e_2_0_rr (slices_IndexFunc_JsonJson_806e_2_0_L hrec_json_right)) other) :=
  loopBy_tie (A := slices_IndexFunc_JsonJson_806e_2_0_A hrec_json_right) ho (loop_tie slices_IndexFunc_JsonJson_806e_2_0_enc (slices_IndexFunc_JsonJson_806e_2_0_s (json_right_1_f2f0 hrec_json_right)) (slices_IndexFunc_JsonJson_806e_2_0_A hrec_json_right) (slices_IndexFunc_JsonJson_806e_2_0_A_zero hrec_json_right) (slices_IndexFunc_JsonJson_806e_2_0_B_ok (json_right_1_f2f0 hrec_json_right) (slices_IndexFunc_JsonJson_806e_2_0_L hrec_json_right)) (slices_IndexFunc_JsonJson_806e_2_0_A_succ hrec_json_right)) slices_IndexFunc_JsonJson_806e_2_0_f slices_IndexFunc_JsonJson_806e_2_0_d slices_IndexFunc_JsonJson_806e_2_0_e_ok (slices_IndexFunc_JsonJson_806e_2_0_r_ok hrec_json_right)

noncomputable def slices_IndexFunc_JsonJson_806e_X {R : Type} (slices_IndexFunc_JsonJson_806e_2_0_L : slices_IndexFunc_JsonJson_806e_2_0_ty R) (x1 : List Json) (x2 : Int) (k0 : Int → Int → Option R) : Option R :=
  slices_IndexFunc_JsonJson_806e_2_0_L (List.length x1 + Int.natAbs (x1.length : Int) + Int.natAbs 0 + Int.natAbs x2 + 64) x1 (x1.length : Int) 0 x2 (fun y9 => k0 (-1) y9) (fun y10 y11 => k0 y10 y11)
noncomputable def slices_IndexFunc_JsonJson_806e {R : Type} (hrec_json_right : json_right_ty R) : slices_IndexFunc_JsonJson_806e_ty R := fun x1 x2 k0 => slices_IndexFunc_JsonJson_806e_X (slices_IndexFunc_JsonJson_806e_2_0_L hrec_json_right) x1 x2 k0
theorem slices_IndexFunc_JsonJson_806e_ok {R : Type} (json_right_1_f2f0 : json_right_1_f2f0_ty R) (slices_IndexFunc_JsonJson_806e_2_0_L : slices_IndexFunc_JsonJson_806e_2_0_ty R) (x1 : List Json) (x2 : Int) (k : V → Heap → Option R) : funK tt (slices_IndexFunc_JsonJson_806e_E R json_right_1_f2f0) (slices_IndexFunc_JsonJson_806e_T R slices_IndexFunc_JsonJson_806e_2_0_L) false Tryz.f116 (codeOf Tryz.f116) [.sl .json x1 .no, .func 80 [] [.ptr 0 0]] [.cells [.int .i64 x2]] k =
    slices_IndexFunc_JsonJson_806e_X slices_IndexFunc_JsonJson_806e_2_0_L x1 x2 (fun q0 q1 => k (.int .i64 q0) [.cells [.int .i64 q1]]) := by kernel_rfl
theorem slices_IndexFunc_JsonJson_806e_loops (R : Type) (hrec_json_right : json_right_ty R) : ∀ a ∈ loopsOf (codeOf Tryz.f116), LoopOk tt (slices_IndexFunc_JsonJson_806e_E R (json_right_1_f2f0 hrec_json_right)) (slices_IndexFunc_JsonJson_806e_T R (slices_IndexFunc_JsonJson_806e_2_0_L hrec_json_right)) 1 a := by
  refine loops_ok 1 (by kernel_rfl) fun i hi => ?_
  match i, hi with
  | 0, _ => exact loopOk_some (by kernel_rfl) (slices_IndexFunc_JsonJson_806e_2_0_ok hrec_json_right _ loopNo_ok)
  | n + 1, hi => omega
theorem slices_IndexFunc_JsonJson_806e_S_ok (R : Type) (hrec_json_right : json_right_ty R) (hyp_json_right : Yard.Spec.Ok Tryz.prog 56 (specBy json_right_p json_right_q (json_right_rr hrec_json_right) specNo)) (other : Yard.Spec R) (ho : Yard.Spec.Ok Tryz.prog 116 other) : Yard.Spec.Ok Tryz.prog 116 (specBy slices_IndexFunc_JsonJson_806e_p slices_IndexFunc_JsonJson_806e_q (slices_IndexFunc_JsonJson_806e_rr (slices_IndexFunc_JsonJson_806e hrec_json_right)) other) :=
  specBy_ok ho (funK_sound TT mixed (slices_IndexFunc_JsonJson_806e_EOk R hrec_json_right hyp_json_right) (keep := false) rfl rfl rfl rfl 1 (slices_IndexFunc_JsonJson_806e_loops R hrec_json_right)) fun (x : Pat.dens slices_IndexFunc_JsonJson_806e_p) (y : HPat.dens slices_IndexFunc_JsonJson_806e_q) k => slices_IndexFunc_JsonJson_806e_ok (json_right_1_f2f0 hrec_json_right) (slices_IndexFunc_JsonJson_806e_2_0_L hrec_json_right) x.1 y.1.1 k

/-! ### slices.ContainsFunc[[]humpyard/api.Json,humpyard/api.Json] -/
abbrev slices_ContainsFunc_JsonJson_806e_ty (R : Type) : Type := (List Json) → Int → (Bool → Int → Option R) → Option R
abbrev slices_ContainsFunc_JsonJson_806e_p : List Pat := [.leaf (.sl .json), .func 80 [] [.ptr 0 0]]
abbrev slices_ContainsFunc_JsonJson_806e_q : List HPat := [.cells [.int .i64]]
noncomputable def slices_ContainsFunc_JsonJson_806e_rr {R : Type} (fn : slices_ContainsFunc_JsonJson_806e_ty R) : Pat.dens slices_ContainsFunc_JsonJson_806e_p → HPat.dens slices_ContainsFunc_JsonJson_806e_q → (V → Heap → Option R) → Option R := fun x y k => fn x.1 y.1.1 (fun q0 q1 => k (.bool q0) [.cells [.int .i64 q1]])
noncomputable def slices_ContainsFunc_JsonJson_806e_E (R : Type) (slices_IndexFunc_JsonJson_806e : slices_IndexFunc_JsonJson_806e_ty R) : Env R := fun i => match i with
  | 116 => some (false, (specBy slices_IndexFunc_JsonJson_806e_p slices_IndexFunc_JsonJson_806e_q (slices_IndexFunc_JsonJson_806e_rr slices_IndexFunc_JsonJson_806e) specNo))
  | _ => none
theorem slices_ContainsFunc_JsonJson_806e_EOk (R : Type) (hrec_json_right : json_right_ty R) (hyp_json_right : Yard.Spec.Ok Tryz.prog 56 (specBy json_right_p json_right_q (json_right_rr hrec_json_right) specNo)) : EOk Tryz.prog (slices_ContainsFunc_JsonJson_806e_E R (slices_IndexFunc_JsonJson_806e hrec_json_right)) := by
  intro i b sp h
  unfold slices_ContainsFunc_JsonJson_806e_E at h
  split at h
  · cases h; exact ⟨(slices_IndexFunc_JsonJson_806e_S_ok R hrec_json_right hyp_json_right _ (specNo_ok _)), fun _ h => nomatch h⟩
  · cases h

noncomputable def slices_ContainsFunc_JsonJson_806e_T (R : Type) : Nat → Option (Hint × LSpec R) := fun i => match i with
  | _ => none

noncomputable def slices_ContainsFunc_JsonJson_806e_X {R : Type} (slices_IndexFunc_JsonJson_806e : slices_IndexFunc_JsonJson_806e_ty R) (x1 : List Json) (x2 : Int) (k0 : Bool → Int → Option R) : Option R :=
  slices_IndexFunc_JsonJson_806e x1 x2 (fun y3 y4 => k0 (decide (y3 ≥ (0 : Int))) y4)
noncomputable def slices_ContainsFunc_JsonJson_806e {R : Type} (hrec_json_right : json_right_ty R) : slices_ContainsFunc_JsonJson_806e_ty R := fun x1 x2 k0 => slices_ContainsFunc_JsonJson_806e_X (slices_IndexFunc_JsonJson_806e hrec_json_right) x1 x2 k0
theorem slices_ContainsFunc_JsonJson_806e_ok {R : Type} (slices_IndexFunc_JsonJson_806e : slices_IndexFunc_JsonJson_806e_ty R) (x1 : List Json) (x2 : Int) (k : V → Heap → Option R) : funK tt (slices_ContainsFunc_JsonJson_806e_E R slices_IndexFunc_JsonJson_806e) (slices_ContainsFunc_JsonJson_806e_T R) false Tryz.f79 (codeOf Tryz.f79) [.sl .json x1 .no, .func 80 [] [.ptr 0 0]] [.cells [.int .i64 x2]] k =
    slices_ContainsFunc_JsonJson_806e_X slices_IndexFunc_JsonJson_806e x1 x2 (fun q0 q1 => k (.bool q0) [.cells [.int .i64 q1]]) := by kernel_rfl
theorem slices_ContainsFunc_JsonJson_806e_loops (R : Type) (hrec_json_right : json_right_ty R) : ∀ a ∈ loopsOf (codeOf Tryz.f79), LoopOk tt (slices_ContainsFunc_JsonJson_806e_E R (slices_IndexFunc_JsonJson_806e hrec_json_right)) (slices_ContainsFunc_JsonJson_806e_T R) 1 a := by
  refine loops_ok 0 (by kernel_rfl) fun i hi => ?_
  omega
theorem slices_ContainsFunc_JsonJson_806e_S_ok (R : Type) (hrec_json_right : json_right_ty R) (hyp_json_right : Yard.Spec.Ok Tryz.prog 56 (specBy json_right_p json_right_q (json_right_rr hrec_json_right) specNo)) (other : Yard.Spec R) (ho : Yard.Spec.Ok Tryz.prog 79 other) : Yard.Spec.Ok Tryz.prog 79 (specBy slices_ContainsFunc_JsonJson_806e_p slices_ContainsFunc_JsonJson_806e_q (slices_ContainsFunc_JsonJson_806e_rr (slices_ContainsFunc_JsonJson_806e hrec_json_right)) other) :=
  specBy_ok ho (funK_sound TT mixed (slices_ContainsFunc_JsonJson_806e_EOk R hrec_json_right hyp_json_right) (keep := false) rfl rfl rfl rfl 1 (slices_ContainsFunc_JsonJson_806e_loops R hrec_json_right)) fun (x : Pat.dens slices_ContainsFunc_JsonJson_806e_p) (y : HPat.dens slices_ContainsFunc_JsonJson_806e_q) k => slices_ContainsFunc_JsonJson_806e_ok (slices_IndexFunc_JsonJson_806e hrec_json_right) x.1 y.1.1 k

noncomputable def json_right_E (R : Type) (quote_Whole : quote_Whole_ty R) (decimal_Right : decimal_Right_ty R) (json_bare : json_bare_ty R) (json_unique : json_unique_ty R) (slices_ContainsFunc_JsonJson_806e : slices_ContainsFunc_JsonJson_806e_ty R) : Env R := fun i => match i with
  | 49 => some (true, (specBy quote_Whole_p quote_Whole_q (quote_Whole_rr quote_Whole) specNo))
  | 65 => some (true, (specBy decimal_Right_p decimal_Right_q (decimal_Right_rr decimal_Right) specNo))
  | 77 => some (true, (specBy json_bare_p json_bare_q (json_bare_rr json_bare) specNo))
  | 78 => some (true, (specBy json_unique_p json_unique_q (json_unique_rr json_unique) specNo))
  | 79 => some (false, (specBy slices_ContainsFunc_JsonJson_806e_p slices_ContainsFunc_JsonJson_806e_q (slices_ContainsFunc_JsonJson_806e_rr slices_ContainsFunc_JsonJson_806e) specNo))
  | _ => none
theorem json_right_EOk (R : Type) (hrec_json_right : json_right_ty R) (hyp_json_right : Yard.Spec.Ok Tryz.prog 56 (specBy json_right_p json_right_q (json_right_rr hrec_json_right) specNo)) : EOk Tryz.prog (json_right_E R quote_Whole decimal_Right json_bare json_unique (slices_ContainsFunc_JsonJson_806e hrec_json_right)) := by
  intro i b sp h
  unfold json_right_E at h
  split at h
  · cases h; exact ⟨(quote_Whole_S_ok R _ (specNo_ok _)), fun h => nomatch h⟩
  · cases h; exact ⟨(decimal_Right_S_ok R _ (specNo_ok _)), fun h => nomatch h⟩
  · cases h; exact ⟨(json_bare_S_ok R _ (specNo_ok _)), fun h => nomatch h⟩
  · cases h; exact ⟨(json_unique_S_ok R _ (specNo_ok _)), fun h => nomatch h⟩
  · cases h; exact ⟨(slices_ContainsFunc_JsonJson_806e_S_ok R hrec_json_right hyp_json_right _ (specNo_ok _)), fun _ h => nomatch h⟩
  · cases h

noncomputable def json_right_T (R : Type) : Nat → Option (Hint × LSpec R) := fun i => match i with
  | _ => none

noncomputable def json_right_X {R : Type} (quote_Whole : quote_Whole_ty R) (decimal_Right : decimal_Right_ty R) (json_bare : json_bare_ty R) (json_unique : json_unique_ty R) (slices_ContainsFunc_JsonJson_806e : slices_ContainsFunc_JsonJson_806e_ty R) (x1 : Json) (x2 : Int) (k0 : Bool → Option R) : Option R :=
  json_bare (⟨x1.kind, ⟨x1.num.mant, x1.num.exp⟩, x1.text, x1.names, x1.items⟩ : Json) (fun y3 => bif (decide (x2 > (16 : Int))) then (k0 false) else (bif (decide (x1.kind < (1 : Int))) then (k0 false) else (bif (decide (x1.kind > (7 : Int))) then (k0 false) else (bif (!(y3.num.mant == 0 && (y3.num.exp == 0 && true))) then (k0 false) else (bif (!(y3.text == ([] : Str))) then (k0 false) else (bif (decide ((IntKind.i64.wrap ((y3.names.length : Int) + (y3.items.length : Int))) > (0 : Int))) then (k0 false) else (bif (x1.kind == 4) then (decimal_Right x1.num (fun y5 => k0 y5)) else (bif (x1.kind == 5) then (quote_Whole x1.text (fun y6 => k0 y6)) else (bif (x1.kind == 7) then (bif ((x1.names.length : Int) != (x1.items.length : Int)) then (k0 false) else (json_unique x1.names (fun y7 => bif (!y7) then (k0 false) else (slices_ContainsFunc_JsonJson_806e x1.items x2 (fun y11 y12 => k0 (!y11)))))) else (slices_ContainsFunc_JsonJson_806e x1.items x2 (fun y13 y14 => k0 (!y13))))))))))))
noncomputable def json_right_B {R : Type} (hrec_json_right : json_right_ty R) : json_right_ty R := fun x1 x2 k0 => json_right_X quote_Whole decimal_Right json_bare json_unique (slices_ContainsFunc_JsonJson_806e hrec_json_right) x1 x2 k0
theorem json_right_ok {R : Type} (quote_Whole : quote_Whole_ty R) (decimal_Right : decimal_Right_ty R) (json_bare : json_bare_ty R) (json_unique : json_unique_ty R) (slices_ContainsFunc_JsonJson_806e : slices_ContainsFunc_JsonJson_806e_ty R) (x1 : Json) (x2 : Int) (k : V → Heap → Option R) : funK tt (json_right_E R quote_Whole decimal_Right json_bare json_unique slices_ContainsFunc_JsonJson_806e) (json_right_T R) false Tryz.f56 (codeOf Tryz.f56) [.agg [.int .i64 x1.kind, .int .i64 x1.num.mant, .int .i64 x1.num.exp, .str x1.text, .sl .str x1.names .no, .sl .json x1.items .no], .int .i64 x2] [] k =
    json_right_X quote_Whole decimal_Right json_bare json_unique slices_ContainsFunc_JsonJson_806e x1 x2 (fun q0 => k (.bool q0) []) := by kernel_rfl
theorem json_right_loops (R : Type) (hrec_json_right : json_right_ty R) : ∀ a ∈ loopsOf (codeOf Tryz.f56), LoopOk tt (json_right_E R quote_Whole decimal_Right json_bare json_unique (slices_ContainsFunc_JsonJson_806e hrec_json_right)) (json_right_T R) 0 a := by
  refine loops_ok 0 (by kernel_rfl) fun i hi => ?_
  omega
theorem json_right_S_okB (R : Type) (hrec_json_right : json_right_ty R) (hyp_json_right : Yard.Spec.Ok Tryz.prog 56 (specBy json_right_p json_right_q (json_right_rr hrec_json_right) specNo)) (other : Yard.Spec R) (ho : Yard.Spec.Ok Tryz.prog 56 other) : Yard.Spec.Ok Tryz.prog 56 (specBy json_right_p json_right_q (json_right_rr (json_right_B hrec_json_right)) other) :=
  specBy_ok ho (funK_sound TT mixed (json_right_EOk R hrec_json_right hyp_json_right) (keep := false) rfl rfl rfl rfl 0 (json_right_loops R hrec_json_right)) fun (x : Pat.dens json_right_p) (y : HPat.dens json_right_q) k => json_right_ok quote_Whole decimal_Right json_bare json_unique (slices_ContainsFunc_JsonJson_806e hrec_json_right) (⟨x.1.1, ⟨x.1.2.1, x.1.2.2.1⟩, x.1.2.2.2.1, x.1.2.2.2.2.1, x.1.2.2.2.2.2.1⟩ : Json) x.2.1 k
noncomputable def json_right_N {R : Type} : Nat → json_right_ty R
  | 0, _, _, _ => none
  | n + 1, x0', x1', k0' => json_right_B (json_right_N n) x0' x1' k0'
theorem json_right_N_succ {R : Type} (n : Nat) : json_right_N (R := R) (n + 1) = json_right_B (json_right_N n) := by kernel_rfl
theorem json_right_N_ok (R : Type) : ∀ n, Yard.Spec.Ok Tryz.prog 56 (specBy json_right_p json_right_q (json_right_rr (json_right_N (R := R) n)) specNo) :=
  specBy_fuel (run := fun n => json_right_rr (json_right_N (R := R) n)) (fun x y k => by kernel_rfl) fun n hyp => json_right_S_okB R (json_right_N n) hyp specNo (specNo_ok _)
noncomputable def json_right {R : Type} : json_right_ty R := fun x1 x2 k0 => json_right_N (Json.depth x1 + 2) x1 x2 k0
theorem json_right_r_ok (R : Type) : json_right_rr (R := R) json_right = fun x y k => json_right_rr (json_right_N (Json.depth (⟨x.1.1, ⟨x.1.2.1, x.1.2.2.1⟩, x.1.2.2.2.1, x.1.2.2.2.2.1, x.1.2.2.2.2.2.1⟩ : Json) + 2)) x y k := by kernel_rfl
theorem json_right_S_ok (R : Type) (other : Yard.Spec R) (ho : Yard.Spec.Ok Tryz.prog 56 other) : Yard.Spec.Ok Tryz.prog 56 (specBy json_right_p json_right_q (json_right_rr json_right) other) :=
  specBy_run (specBy_at (run := fun n => json_right_rr (json_right_N (R := R) n)) (fun x y => (Json.depth (⟨x.1.1, ⟨x.1.2.1, x.1.2.2.1⟩, x.1.2.2.2.1, x.1.2.2.2.2.1, x.1.2.2.2.2.2.1⟩ : Json) + 2)) ho (json_right_N_ok R)) (json_right_r_ok R)

end Go.Proofs.YtmlkkgfenfdndaaGreatDoor

