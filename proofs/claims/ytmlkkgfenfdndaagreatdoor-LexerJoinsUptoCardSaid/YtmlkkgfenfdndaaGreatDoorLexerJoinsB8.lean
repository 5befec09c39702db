/-
  LexerJoins: for every input whose bulk is at most 1048576 the law returns true, and each argument reads behind the call as it read before; part 8 of 9 of the proof: an interpreter of the model's code over typed data, proved sound; the functions that the law reaches, printed as Lean functions and tied; the plain law. Own texts laid one behind the other.
-/
import Derived.Lib.ItoaMem
import Derived.Test.YtmlkkgfenfdndaaGreatDoorLexerJoinsB7
set_option linter.unusedSimpArgs false
set_option linter.unnecessarySimpa false
set_option linter.unusedVariables false
set_option linter.unusedSectionVars false
/-
  Functions of the program as pure Lean functions, and the ties; printed by wip/tools/emit.py.
-/
set_option maxRecDepth 100000
set_option linter.unusedVariables false
namespace Go.Proofs.YtmlkkgfenfdndaaGreatDoor
open Go Go.Yard

/-! ### (*strings.Builder).WriteRune -/
abbrev strings_Builder_WriteRune_dc6e_ty (R : Type) : Type := Int → (List Int) → (Int → (List Int) → Option R) → Option R
abbrev strings_Builder_WriteRune_dc6e_p : List Pat := [.leaf (.ptr 0 0), .leaf (.int .i32)]
abbrev strings_Builder_WriteRune_dc6e_q : List HPat := [.bld (.slo (.int .u8) 1), .tok]
noncomputable def strings_Builder_WriteRune_dc6e_rr {R : Type} (fn : strings_Builder_WriteRune_dc6e_ty R) : Pat.dens strings_Builder_WriteRune_dc6e_p → HPat.dens strings_Builder_WriteRune_dc6e_q → (V → Heap → Option R) → Option R := fun x y k => fn x.2.1 y.1 (fun q0 q1 => k (.tuple [.int .i64 q0, .niliface]) [.bld (.sl (.int .u8) q1 (.own 2)), .dead, .tok])
noncomputable def strings_Builder_WriteRune_dc6e_E (R : Type) (unicode_utf8_AppendRune_7b6c : unicode_utf8_AppendRune_7b6c_ty R) : Env R := fun i => match i with
  | 73 => some (false, (bcc_S R))
  | 74 => some (false, (specBy unicode_utf8_AppendRune_7b6c_p unicode_utf8_AppendRune_7b6c_q (unicode_utf8_AppendRune_7b6c_rr unicode_utf8_AppendRune_7b6c) specNo))
  | _ => none
theorem strings_Builder_WriteRune_dc6e_EOk (R : Type) : EOk Tryz.prog (strings_Builder_WriteRune_dc6e_E R unicode_utf8_AppendRune_7b6c) := by
  intro i b sp h
  unfold strings_Builder_WriteRune_dc6e_E at h
  split at h
  · cases h; exact ⟨(bcc_is), fun _ h => nomatch h⟩
  · cases h; exact ⟨(unicode_utf8_AppendRune_7b6c_S_ok R _ (specNo_ok _)), fun _ h => nomatch h⟩
  · cases h

noncomputable def strings_Builder_WriteRune_dc6e_T (R : Type) : Nat → Option (Hint × LSpec R) := fun i => match i with
  | _ => none

noncomputable def strings_Builder_WriteRune_dc6e_X {R : Type} (unicode_utf8_AppendRune_7b6c : unicode_utf8_AppendRune_7b6c_ty R) (x1 : Int) (x2 : List Int) (k0 : Int → (List Int) → Option R) : Option R :=
  unicode_utf8_AppendRune_7b6c x2 x1 (fun y3 => k0 (IntKind.i64.wrap ((y3.length : Int) - (x2.length : Int))) y3)
noncomputable def strings_Builder_WriteRune_dc6e {R : Type} : strings_Builder_WriteRune_dc6e_ty R := fun x1 x2 k0 => strings_Builder_WriteRune_dc6e_X unicode_utf8_AppendRune_7b6c x1 x2 k0
theorem strings_Builder_WriteRune_dc6e_ok {R : Type} (unicode_utf8_AppendRune_7b6c : unicode_utf8_AppendRune_7b6c_ty R) (x1 : Int) (x2 : List Int) (k : V → Heap → Option R) : funK tt (strings_Builder_WriteRune_dc6e_E R unicode_utf8_AppendRune_7b6c) (strings_Builder_WriteRune_dc6e_T R) false Tryz.f53 (codeOf Tryz.f53) [.ptr 0 0, .int .i32 x1] [.bld (.sl (.int .u8) x2 (.own 1)), .tok] k =
    strings_Builder_WriteRune_dc6e_X unicode_utf8_AppendRune_7b6c x1 x2 (fun q0 q1 => k (.tuple [.int .i64 q0, .niliface]) [.bld (.sl (.int .u8) q1 (.own 2)), .dead, .tok]) := by kernel_rfl
theorem strings_Builder_WriteRune_dc6e_loops (R : Type) : ∀ a ∈ loopsOf (codeOf Tryz.f53), LoopOk tt (strings_Builder_WriteRune_dc6e_E R unicode_utf8_AppendRune_7b6c) (strings_Builder_WriteRune_dc6e_T R) 2 a := by
  refine loops_ok 0 (by kernel_rfl) fun i hi => ?_
  omega
theorem strings_Builder_WriteRune_dc6e_S_ok (R : Type) (other : Yard.Spec R) (ho : Yard.Spec.Ok Tryz.prog 53 other) : Yard.Spec.Ok Tryz.prog 53 (specBy strings_Builder_WriteRune_dc6e_p strings_Builder_WriteRune_dc6e_q (strings_Builder_WriteRune_dc6e_rr strings_Builder_WriteRune_dc6e) other) :=
  specBy_ok ho (funK_sound TT mixed (strings_Builder_WriteRune_dc6e_EOk R) (keep := false) rfl rfl rfl rfl 2 (strings_Builder_WriteRune_dc6e_loops R)) fun (x : Pat.dens strings_Builder_WriteRune_dc6e_p) (y : HPat.dens strings_Builder_WriteRune_dc6e_q) k => strings_Builder_WriteRune_dc6e_ok unicode_utf8_AppendRune_7b6c x.2.1 y.1 k

/-! ### (*humpyard/quote.reader).plain -/
abbrev quote_reader_plain_abbd_ty (R : Type) : Type := Str → (Int → Str → Option R) → Option R
abbrev quote_reader_plain_abbd_p : List Pat := [.leaf (.ptr 0 0)]
abbrev quote_reader_plain_abbd_q : List HPat := [.cells [.str]]
noncomputable def quote_reader_plain_abbd_rr {R : Type} (fn : quote_reader_plain_abbd_ty R) : Pat.dens quote_reader_plain_abbd_p → HPat.dens quote_reader_plain_abbd_q → (V → Heap → Option R) → Option R := fun x y k => fn y.1.1 (fun q0 q1 => k (.int .i32 q0) [.cells [.str q1]])
noncomputable def quote_reader_plain_abbd_E (R : Type) : Env R := fun i => match i with
  | 130 => some (true, (dec_S R))
  | _ => none
theorem quote_reader_plain_abbd_EOk (R : Type) : EOk Tryz.prog (quote_reader_plain_abbd_E R) := by
  intro i b sp h
  unfold quote_reader_plain_abbd_E at h
  split at h
  · cases h; exact ⟨(dec_ok), fun h => nomatch h⟩
  · cases h

noncomputable def quote_reader_plain_abbd_T (R : Type) : Nat → Option (Hint × LSpec R) := fun i => match i with
  | _ => none

noncomputable def quote_reader_plain_abbd_X {R : Type} (x1 : Str) (k0 : Int → Str → Option R) : Option R :=
  let j3 := chk (decide ((0 : Int) ≤ (x1.length : Int)) && decide ((x1.length : Int) ≤ x1.length)) (chk (decide ((0 : Int) ≤ ((decRune x1).2 : Int)) && decide (((decRune x1).2 : Int) ≤ (x1.length : Int))) (k0 ((decRune x1).1 : Int) ((x1.drop ((decRune x1).2 : Int).toNat).take ((x1.length : Int).toNat - ((decRune x1).2 : Int).toNat)))); bif (((decRune x1).1 : Int) == 65533) then (bif (decide (((decRune x1).2 : Int) < (2 : Int))) then (k0 (-1) x1) else (bif (decide (((decRune x1).1 : Int) < (32 : Int))) then (k0 (-1) x1) else (j3))) else (bif (decide (((decRune x1).1 : Int) < (32 : Int))) then (k0 (-1) x1) else (j3))
noncomputable def quote_reader_plain_abbd {R : Type} : quote_reader_plain_abbd_ty R := fun x1 k0 => quote_reader_plain_abbd_X x1 k0
theorem quote_reader_plain_abbd_ok {R : Type} (x1 : Str) (k : V → Heap → Option R) : funK tt (quote_reader_plain_abbd_E R) (quote_reader_plain_abbd_T R) false Tryz.f108 (codeOf Tryz.f108) [.ptr 0 0] [.cells [.str x1]] k =
    quote_reader_plain_abbd_X x1 (fun q0 q1 => k (.int .i32 q0) [.cells [.str q1]]) := by kernel_rfl
theorem quote_reader_plain_abbd_loops (R : Type) : ∀ a ∈ loopsOf (codeOf Tryz.f108), LoopOk tt (quote_reader_plain_abbd_E R) (quote_reader_plain_abbd_T R) 1 a := by
  refine loops_ok 0 (by kernel_rfl) fun i hi => ?_
  omega
theorem quote_reader_plain_abbd_S_ok (R : Type) (other : Yard.Spec R) (ho : Yard.Spec.Ok Tryz.prog 108 other) : Yard.Spec.Ok Tryz.prog 108 (specBy quote_reader_plain_abbd_p quote_reader_plain_abbd_q (quote_reader_plain_abbd_rr quote_reader_plain_abbd) other) :=
  specBy_ok ho (funK_sound TT mixed (quote_reader_plain_abbd_EOk R) (keep := false) rfl rfl rfl rfl 1 (quote_reader_plain_abbd_loops R)) fun (x : Pat.dens quote_reader_plain_abbd_p) (y : HPat.dens quote_reader_plain_abbd_q) k => quote_reader_plain_abbd_ok y.1.1 k

/-! ### humpyard/quote.Unquote -/
abbrev quote_Unquote_ty (R : Type) : Type := Str → (Str → Int → Bool → Option R) → Option R
abbrev quote_Unquote_p : List Pat := [.leaf (.str)]
abbrev quote_Unquote_q : List HPat := []
noncomputable def quote_Unquote_rr {R : Type} (fn : quote_Unquote_ty R) : Pat.dens quote_Unquote_p → HPat.dens quote_Unquote_q → (V → Heap → Option R) → Option R := fun x y k => fn x.1 (fun q0 q1 q2 => k (.tuple [.str q0, .int .i64 q1, .bool q2]) [])
abbrev quote_Unquote_5_0_ty (R : Type) : Type := Nat → Str → Str → (List Int) → (Str → Str → (List Int) → Option R) → (Str → Str → Int → Bool → Str → (List Int) → Option R) → Option R
noncomputable def quote_Unquote_E (R : Type) (strings_Builder_WriteRune_dc6e : strings_Builder_WriteRune_dc6e_ty R) (quote_reader_skip_e74a : quote_reader_skip_e74a_ty R) (quote_reader_plain_abbd : quote_reader_plain_abbd_ty R) (quote_reader_escaped_abbd : quote_reader_escaped_abbd_ty R) : Env R := fun i => match i with
  | 53 => some (false, (specBy strings_Builder_WriteRune_dc6e_p strings_Builder_WriteRune_dc6e_q (strings_Builder_WriteRune_dc6e_rr strings_Builder_WriteRune_dc6e) specNo))
  | 39 => some (false, (bstr_S R))
  | 107 => some (false, (specBy quote_reader_skip_e74a_p quote_reader_skip_e74a_q (quote_reader_skip_e74a_rr quote_reader_skip_e74a) specNo))
  | 108 => some (false, (specBy quote_reader_plain_abbd_p quote_reader_plain_abbd_q (quote_reader_plain_abbd_rr quote_reader_plain_abbd) specNo))
  | 109 => some (false, (specBy quote_reader_escaped_abbd_p quote_reader_escaped_abbd_q (quote_reader_escaped_abbd_rr quote_reader_escaped_abbd) specNo))
  | _ => none
theorem quote_Unquote_EOk (R : Type) : EOk Tryz.prog (quote_Unquote_E R strings_Builder_WriteRune_dc6e quote_reader_skip_e74a quote_reader_plain_abbd quote_reader_escaped_abbd) := by
  intro i b sp h
  unfold quote_Unquote_E at h
  split at h
  · cases h; exact ⟨(strings_Builder_WriteRune_dc6e_S_ok R _ (specNo_ok _)), fun _ h => nomatch h⟩
  · cases h; exact ⟨(bstr_is), fun _ _ => bstr_soft⟩
  · cases h; exact ⟨(quote_reader_skip_e74a_S_ok R _ (specNo_ok _)), fun _ h => nomatch h⟩
  · cases h; exact ⟨(quote_reader_plain_abbd_S_ok R _ (specNo_ok _)), fun _ h => nomatch h⟩
  · cases h; exact ⟨(quote_reader_escaped_abbd_S_ok R _ (specNo_ok _)), fun _ h => nomatch h⟩
  · cases h

noncomputable def quote_Unquote_5_0_B {R : Type} (strings_Builder_WriteRune_dc6e : strings_Builder_WriteRune_dc6e_ty R) (quote_reader_skip_e74a : quote_reader_skip_e74a_ty R) (quote_reader_plain_abbd : quote_reader_plain_abbd_ty R) (quote_reader_escaped_abbd : quote_reader_escaped_abbd_ty R) (rec' : Str → Str → (List Int) → Option R) (x4 : Str) (x5 : Str) (x6 : List Int) (e0 : Str → Str → (List Int) → Option R) (e1 : Str → Str → Int → Bool → Str → (List Int) → Option R) : Option R :=
  quote_reader_skip_e74a ([34] : Str) x5 (fun y7 y8 => bif (!y7) then (quote_reader_skip_e74a ([92] : Str) y8 (fun y9 y10 => bif y9 then (quote_reader_escaped_abbd y10 (fun y11 y12 => bif (decide (y11 < (0 : Int))) then (e1 x4 ([] : Str) 0 false y12 x6) else (strings_Builder_WriteRune_dc6e y11 x6 (fun y13 y14 => rec' x4 y12 y14)))) else (quote_reader_plain_abbd y10 (fun y15 y16 => bif (decide (y15 < (0 : Int))) then (e1 x4 ([] : Str) 0 false y16 x6) else (strings_Builder_WriteRune_dc6e y15 x6 (fun y17 y18 => rec' x4 y16 y18)))))) else (e0 x4 y8 x6))
noncomputable def quote_Unquote_5_0_L {R : Type} : quote_Unquote_5_0_ty R
  | 0, _, _, _, _, _ => none
  | n + 1, x0', x1', x2', e0, e1 => quote_Unquote_5_0_B strings_Builder_WriteRune_dc6e quote_reader_skip_e74a quote_reader_plain_abbd quote_reader_escaped_abbd (fun x0' x1' x2' => quote_Unquote_5_0_L n x0' x1' x2' e0 e1) x0' x1' x2' e0 e1
noncomputable def quote_Unquote_5_0_h : Hint := { live := [0, 5, 6], own := [], rows := [], cells := [(1, 1, (.int .u8), false)], drop := [], out := [0, 2, 3, 4, 5, 6] }
abbrev quote_Unquote_5_0_D : Type := Str × Str × (List Int)
noncomputable def quote_Unquote_5_0_enc : quote_Unquote_5_0_D → St := fun d => ⟨[.str d.1, .undef, .undef, .undef, .undef, .ptr 0 0, .ptr 1 0, .undef, .undef, .undef, .undef, .undef, .undef, .undef, .undef, .undef, .undef, .undef, .undef, .undef, .undef, .undef, .undef, .undef, .undef, .undef, .undef, .undef, .undef, .undef, .undef, .undef, .undef, .undef, .undef, .undef, .undef, .undef, .undef], [.cells [.str d.2.1], .bld (.sl (.int .u8) d.2.2 (.own 2)), .tok]⟩
noncomputable def quote_Unquote_5_0_x0 {R : Type} (K : Ex → St → Option R) (q0 : Str) (q1 : Str) (q2 : List Int) : Option R := K (.exit 0) ⟨[.str q0, .undef, .undef, .undef, .undef, .ptr 0 0, .ptr 1 0, .undef, .undef, .undef, .undef, .undef, .undef, .undef, .undef, .undef, .undef, .undef, .undef, .undef, .undef, .undef, .undef, .undef, .undef, .undef, .undef, .undef, .undef, .undef, .undef, .undef, .undef, .undef, .undef, .undef, .undef, .undef, .undef], [.cells [.str q1], .bld (.sl (.int .u8) q2 (.own 2)), .tok]⟩
noncomputable def quote_Unquote_5_0_x1 {R : Type} (K : Ex → St → Option R) (q0 : Str) (q1 : Str) (q2 : Int) (q3 : Bool) (q4 : Str) (q5 : List Int) : Option R := K (.ret) ⟨[.str q0, .undef, .str q1, .int .i64 q2, .bool q3, .ptr 0 0, .ptr 1 0, .undef, .undef, .undef, .undef, .undef, .undef, .undef, .undef, .undef, .undef, .undef, .undef, .undef, .undef, .undef, .undef, .undef, .undef, .undef, .undef, .undef, .undef, .undef, .undef, .undef, .undef, .undef, .undef, .undef, .undef, .undef, .undef], [.cells [.str q4], .bld (.sl (.int .u8) q5 (.own 2)), .tok]⟩
noncomputable def quote_Unquote_5_0_s {R : Type} (strings_Builder_WriteRune_dc6e : strings_Builder_WriteRune_dc6e_ty R) (quote_reader_skip_e74a : quote_reader_skip_e74a_ty R) (quote_reader_plain_abbd : quote_reader_plain_abbd_ty R) (quote_reader_escaped_abbd : quote_reader_escaped_abbd_ty R) (K : Ex → St → Option R) (rc : quote_Unquote_5_0_D → Option R) (d : quote_Unquote_5_0_D) : Option R := quote_Unquote_5_0_B strings_Builder_WriteRune_dc6e quote_reader_skip_e74a quote_reader_plain_abbd quote_reader_escaped_abbd (fun z0 z1 z2 => rc (z0, z1, z2)) d.1 d.2.1 d.2.2 (quote_Unquote_5_0_x0 K) (quote_Unquote_5_0_x1 K)
noncomputable def quote_Unquote_5_0_A {R : Type} (K : Ex → St → Option R) (n : Nat) (d : quote_Unquote_5_0_D) : Option R := quote_Unquote_5_0_L n d.1 d.2.1 d.2.2 (quote_Unquote_5_0_x0 K) (quote_Unquote_5_0_x1 K)
abbrev quote_Unquote_5_0_p : List Pat := [.leaf (.str), .leaf (.undef), .leaf (.undef), .leaf (.undef), .leaf (.undef), .leaf (.ptr 0 0), .leaf (.ptr 1 0), .leaf (.undef), .leaf (.undef), .leaf (.undef), .leaf (.undef), .leaf (.undef), .leaf (.undef), .leaf (.undef), .leaf (.undef), .leaf (.undef), .leaf (.undef), .leaf (.undef), .leaf (.undef), .leaf (.undef), .leaf (.undef), .leaf (.undef), .leaf (.undef), .leaf (.undef), .leaf (.undef), .leaf (.undef), .leaf (.undef), .leaf (.undef), .leaf (.undef), .leaf (.undef), .leaf (.undef), .leaf (.undef), .leaf (.undef), .leaf (.undef), .leaf (.undef), .leaf (.undef), .leaf (.undef), .leaf (.undef), .leaf (.undef)]
abbrev quote_Unquote_5_0_q : List HPat := [.cells [.str], .bld (.slo (.int .u8) 2), .tok]
noncomputable def quote_Unquote_5_0_f (x : Pat.dens quote_Unquote_5_0_p) (y : HPat.dens quote_Unquote_5_0_q) : Nat := (List.length x.1 + List.length y.1.1 + List.length y.2.1 + 64)
noncomputable def quote_Unquote_5_0_d (x : Pat.dens quote_Unquote_5_0_p) (y : HPat.dens quote_Unquote_5_0_q) : quote_Unquote_5_0_D := (x.1, y.1.1, y.2.1)
noncomputable def quote_Unquote_5_0_rr {R : Type} (L : quote_Unquote_5_0_ty R) : Pat.dens quote_Unquote_5_0_p → HPat.dens quote_Unquote_5_0_q → (Ex → St → Option R) → Option R := fun x y K => L (quote_Unquote_5_0_f x y) x.1 y.1.1 y.2.1 (quote_Unquote_5_0_x0 K) (quote_Unquote_5_0_x1 K)
noncomputable def quote_Unquote_T (R : Type) (quote_Unquote_5_0_L : quote_Unquote_5_0_ty R) : Nat → Option (Hint × LSpec R) := fun i => match i with
  | 5 => some (quote_Unquote_5_0_h, (loopBy quote_Unquote_5_0_p quote_Unquote_5_0_q (quote_Unquote_5_0_rr quote_Unquote_5_0_L) loopNo))
  | _ => none

theorem quote_Unquote_5_0_B_ok {R : Type} (strings_Builder_WriteRune_dc6e : strings_Builder_WriteRune_dc6e_ty R) (quote_reader_skip_e74a : quote_reader_skip_e74a_ty R) (quote_reader_plain_abbd : quote_reader_plain_abbd_ty R) (quote_reader_escaped_abbd : quote_reader_escaped_abbd_ty R) (quote_Unquote_5_0_L : quote_Unquote_5_0_ty R) (K : Ex → St → Option R) (rc : St → Option R) (d : quote_Unquote_5_0_D) : roundOf tt (quote_Unquote_E R strings_Builder_WriteRune_dc6e quote_reader_skip_e74a quote_reader_plain_abbd quote_reader_escaped_abbd) (quote_Unquote_T R quote_Unquote_5_0_L) 0 ((loopsOf (codeOf Tryz.f70)).getD 0 .skip) quote_Unquote_5_0_h (quote_Unquote_5_0_enc d) rc K = quote_Unquote_5_0_s strings_Builder_WriteRune_dc6e quote_reader_skip_e74a quote_reader_plain_abbd quote_reader_escaped_abbd K (fun d => rc (quote_Unquote_5_0_enc d)) d := by kernel_rfl
theorem quote_Unquote_5_0_A_succ {R : Type} (K : Ex → St → Option R) (n : Nat) (d : quote_Unquote_5_0_D) : quote_Unquote_5_0_A K (n + 1) d = quote_Unquote_5_0_s strings_Builder_WriteRune_dc6e quote_reader_skip_e74a quote_reader_plain_abbd quote_reader_escaped_abbd K (quote_Unquote_5_0_A K n) d := by kernel_rfl
theorem quote_Unquote_5_0_A_zero {R : Type} (K : Ex → St → Option R) (d : quote_Unquote_5_0_D) : quote_Unquote_5_0_A K 0 d = none := by kernel_rfl
theorem quote_Unquote_5_0_e_ok (x : Pat.dens quote_Unquote_5_0_p) (y : HPat.dens quote_Unquote_5_0_q) : (⟨Pat.encL quote_Unquote_5_0_p x, HPat.encL quote_Unquote_5_0_q y⟩ : St) = quote_Unquote_5_0_enc (quote_Unquote_5_0_d x y) := by kernel_rfl
theorem quote_Unquote_5_0_r_ok {R : Type} (x : Pat.dens quote_Unquote_5_0_p) (y : HPat.dens quote_Unquote_5_0_q) (K : Ex → St → Option R) : quote_Unquote_5_0_rr (quote_Unquote_5_0_L) x y K = quote_Unquote_5_0_A K (quote_Unquote_5_0_f x y) (quote_Unquote_5_0_d x y) := by kernel_rfl
theorem quote_Unquote_5_0_ok {R : Type} (other : LSpec R) (ho : LsOk tt (quote_Unquote_E R strings_Builder_WriteRune_dc6e quote_reader_skip_e74a quote_reader_plain_abbd quote_reader_escaped_abbd) (quote_Unquote_T R quote_Unquote_5_0_L) 0 ((loopsOf (codeOf Tryz.f70)).getD 0 .skip) quote_Unquote_5_0_h other) : LsOk tt (quote_Unquote_E R strings_Builder_WriteRune_dc6e quote_reader_skip_e74a quote_reader_plain_abbd quote_reader_escaped_abbd) (quote_Unquote_T R quote_Unquote_5_0_L) 0 ((loopsOf (codeOf Tryz.f70)).getD 0 .skip) quote_Unquote_5_0_h (loopBy quote_Unquote_5_0_p quote_Unquote_5_0_q (quote_Unquote_5_0_rr (quote_Unquote_5_0_L)) other) :=
  loopBy_tie (A := quote_Unquote_5_0_A) ho (loop_tie quote_Unquote_5_0_enc (quote_Unquote_5_0_s strings_Builder_WriteRune_dc6e quote_reader_skip_e74a quote_reader_plain_abbd quote_reader_escaped_abbd) (quote_Unquote_5_0_A) (quote_Unquote_5_0_A_zero) (quote_Unquote_5_0_B_ok strings_Builder_WriteRune_dc6e quote_reader_skip_e74a quote_reader_plain_abbd quote_reader_escaped_abbd quote_Unquote_5_0_L) (quote_Unquote_5_0_A_succ)) quote_Unquote_5_0_f quote_Unquote_5_0_d quote_Unquote_5_0_e_ok (quote_Unquote_5_0_r_ok)

noncomputable def quote_Unquote_X {R : Type} (quote_reader_skip_e74a : quote_reader_skip_e74a_ty R) (quote_Unquote_5_0_L : quote_Unquote_5_0_ty R) (x1 : Str) (k0 : Str → Int → Bool → Option R) : Option R :=
  quote_reader_skip_e74a ([34] : Str) x1 (fun y2 y3 => bif (!y2) then (k0 ([] : Str) 0 false) else (quote_Unquote_5_0_L (List.length x1 + List.length y3 + List.length ([] : List Int) + 64) x1 y3 ([] : List Int) (fun y19 y20 y21 => k0 (bstr y21) (IntKind.i64.wrap ((y19.length : Int) - (y20.length : Int))) true) (fun y22 y23 y24 y25 y26 y27 => k0 y23 y24 y25)))
noncomputable def quote_Unquote {R : Type} : quote_Unquote_ty R := fun x1 k0 => quote_Unquote_X quote_reader_skip_e74a quote_Unquote_5_0_L x1 k0
theorem quote_Unquote_ok {R : Type} (strings_Builder_WriteRune_dc6e : strings_Builder_WriteRune_dc6e_ty R) (quote_reader_skip_e74a : quote_reader_skip_e74a_ty R) (quote_reader_plain_abbd : quote_reader_plain_abbd_ty R) (quote_reader_escaped_abbd : quote_reader_escaped_abbd_ty R) (quote_Unquote_5_0_L : quote_Unquote_5_0_ty R) (x1 : Str) (k : V → Heap → Option R) : funK tt (quote_Unquote_E R strings_Builder_WriteRune_dc6e quote_reader_skip_e74a quote_reader_plain_abbd quote_reader_escaped_abbd) (quote_Unquote_T R quote_Unquote_5_0_L) false Tryz.f70 (codeOf Tryz.f70) [.str x1] [] k =
    quote_Unquote_X quote_reader_skip_e74a quote_Unquote_5_0_L x1 (fun q0 q1 q2 => k (.tuple [.str q0, .int .i64 q1, .bool q2]) []) := by kernel_rfl
theorem quote_Unquote_loops (R : Type) : ∀ a ∈ loopsOf (codeOf Tryz.f70), LoopOk tt (quote_Unquote_E R strings_Builder_WriteRune_dc6e quote_reader_skip_e74a quote_reader_plain_abbd quote_reader_escaped_abbd) (quote_Unquote_T R quote_Unquote_5_0_L) 0 a := by
  refine loops_ok 1 (by kernel_rfl) fun i hi => ?_
  match i, hi with
  | 0, _ => exact loopOk_some (by kernel_rfl) (quote_Unquote_5_0_ok _ loopNo_ok)
  | n + 1, hi => omega
theorem quote_Unquote_S_ok (R : Type) (other : Yard.Spec R) (ho : Yard.Spec.Ok Tryz.prog 70 other) : Yard.Spec.Ok Tryz.prog 70 (specBy quote_Unquote_p quote_Unquote_q (quote_Unquote_rr quote_Unquote) other) :=
  specBy_ok ho (funK_sound TT mixed (quote_Unquote_EOk R) (keep := false) rfl rfl rfl rfl 0 (quote_Unquote_loops R)) fun (x : Pat.dens quote_Unquote_p) (y : HPat.dens quote_Unquote_q) k => quote_Unquote_ok strings_Builder_WriteRune_dc6e quote_reader_skip_e74a quote_reader_plain_abbd quote_reader_escaped_abbd quote_Unquote_5_0_L x.1 k

/-! ### humpyard/lexer.next -/
abbrev lexer_next_ty (R : Type) : Type := Str → (Token → Int → Option R) → Option R
abbrev lexer_next_p : List Pat := [.leaf (.str)]
abbrev lexer_next_q : List HPat := []
noncomputable def lexer_next_rr {R : Type} (fn : lexer_next_ty R) : Pat.dens lexer_next_p → HPat.dens lexer_next_q → (V → Heap → Option R) → Option R := fun x y k => fn x.1 (fun q0 q1 => k (.tuple [.agg [.int .i64 q0.kind, .str q0.text, .int .i64 q0.num.mant, .int .i64 q0.num.exp, .int .i64 q0.at_], .int .i64 q1]) [])
noncomputable def lexer_next_E (R : Type) (quote_Unquote : quote_Unquote_ty R) (decimal_Parse : decimal_Parse_ty R) (lexer_while : lexer_while_ty R) : Env R := fun i => match i with
  | 70 => some (true, (specBy quote_Unquote_p quote_Unquote_q (quote_Unquote_rr quote_Unquote) specNo))
  | 69 => some (true, (specBy decimal_Parse_p decimal_Parse_q (decimal_Parse_rr decimal_Parse) specNo))
  | 71 => some (true, (idx_S R))
  | 47 => some (true, (specBy lexer_while_p lexer_while_q (lexer_while_rr lexer_while) specNo))
  | _ => none
theorem lexer_next_EOk (R : Type) : EOk Tryz.prog (lexer_next_E R quote_Unquote decimal_Parse lexer_while) := by
  intro i b sp h
  unfold lexer_next_E at h
  split at h
  · cases h; exact ⟨(quote_Unquote_S_ok R _ (specNo_ok _)), fun h => nomatch h⟩
  · cases h; exact ⟨(decimal_Parse_S_ok R _ (specNo_ok _)), fun h => nomatch h⟩
  · cases h; exact ⟨(idx_ok), fun h => nomatch h⟩
  · cases h; exact ⟨(lexer_while_S_ok R _ (specNo_ok _)), fun h => nomatch h⟩
  · cases h

noncomputable def lexer_next_T (R : Type) : Nat → Option (Hint × LSpec R) := fun i => match i with
  | _ => none

noncomputable def lexer_next_X {R : Type} (quote_Unquote : quote_Unquote_ty R) (decimal_Parse : decimal_Parse_ty R) (lexer_while : lexer_while_ty R) (x1 : Str) (k0 : Token → Int → Option R) : Option R :=
  chk (decide ((0 : Int) < x1.length)) (let j23 := lexer_while x1 ([97, 98, 99, 100, 101, 102, 103, 104, 105, 106, 107, 108, 109, 110, 111, 112, 113, 114, 115, 116, 117, 118, 119, 120, 121, 122] : Str) (fun y21 => bif (y21 == ([116, 114, 117, 101] : Str)) then (k0 (⟨4, y21, ⟨0, 0⟩, 0⟩ : Token) (y21.length : Int)) else (bif (y21 == ([102, 97, 108, 115, 101] : Str)) then (k0 (⟨4, y21, ⟨0, 0⟩, 0⟩ : Token) (y21.length : Int)) else (bif (!(y21 == ([110, 117, 108, 108] : Str))) then (k0 (⟨0, ([] : Str), ⟨0, 0⟩, 0⟩ : Token) 0) else (k0 (⟨4, y21, ⟨0, 0⟩, 0⟩ : Token) (y21.length : Int))))); bif (((x1.getD 0 0).toNat : Int) == 45) then (lexer_while x1 ([48, 49, 50, 51, 52, 53, 54, 55, 56, 57, 43, 45, 46, 101, 69] : Str) (fun y6 => decimal_Parse y6 (fun y7 y8 => bif (!y8) then (k0 (⟨0, ([] : Str), ⟨0, 0⟩, 0⟩ : Token) 0) else (k0 (⟨3, y6, ⟨y7.mant, y7.exp⟩, 0⟩ : Token) (y6.length : Int))))) else (bif (decide (((x1.getD 0 0).toNat : Int) ≥ (48 : Int))) then (bif (decide (((x1.getD 0 0).toNat : Int) ≤ (57 : Int))) then (lexer_while x1 ([48, 49, 50, 51, 52, 53, 54, 55, 56, 57, 43, 45, 46, 101, 69] : Str) (fun y9 => decimal_Parse y9 (fun y10 y11 => bif (!y11) then (k0 (⟨0, ([] : Str), ⟨0, 0⟩, 0⟩ : Token) 0) else (k0 (⟨3, y9, ⟨y10.mant, y10.exp⟩, 0⟩ : Token) (y9.length : Int))))) else (bif (((x1.getD 0 0).toNat : Int) == 34) then (quote_Unquote x1 (fun y15 y16 y17 => bif (!y17) then (k0 (⟨0, ([] : Str), ⟨0, 0⟩, 0⟩ : Token) 0) else (k0 (⟨2, y15, ⟨0, 0⟩, 0⟩ : Token) y16))) else (bif (decide ((idxByte ([123, 125, 91, 93, 44, 58] : Str) ((x1.getD 0 0).toNat : Int)) ≥ (0 : Int))) then (chk (decide ((1 : Int) ≤ x1.length)) (k0 (⟨1, ((x1.drop 0).take (1 - 0)), ⟨0, 0⟩, 0⟩ : Token) 1)) else (j23)))) else (bif (((x1.getD 0 0).toNat : Int) == 34) then (quote_Unquote x1 (fun y18 y19 y20 => bif (!y20) then (k0 (⟨0, ([] : Str), ⟨0, 0⟩, 0⟩ : Token) 0) else (k0 (⟨2, y18, ⟨0, 0⟩, 0⟩ : Token) y19))) else (bif (decide ((idxByte ([123, 125, 91, 93, 44, 58] : Str) ((x1.getD 0 0).toNat : Int)) ≥ (0 : Int))) then (chk (decide ((1 : Int) ≤ x1.length)) (k0 (⟨1, ((x1.drop 0).take (1 - 0)), ⟨0, 0⟩, 0⟩ : Token) 1)) else (j23)))))
noncomputable def lexer_next {R : Type} : lexer_next_ty R := fun x1 k0 => lexer_next_X quote_Unquote decimal_Parse lexer_while x1 k0
theorem lexer_next_ok {R : Type} (quote_Unquote : quote_Unquote_ty R) (decimal_Parse : decimal_Parse_ty R) (lexer_while : lexer_while_ty R) (x1 : Str) (k : V → Heap → Option R) : funK tt (lexer_next_E R quote_Unquote decimal_Parse lexer_while) (lexer_next_T R) false Tryz.f48 (codeOf Tryz.f48) [.str x1] [] k =
    lexer_next_X quote_Unquote decimal_Parse lexer_while x1 (fun q0 q1 => k (.tuple [.agg [.int .i64 q0.kind, .str q0.text, .int .i64 q0.num.mant, .int .i64 q0.num.exp, .int .i64 q0.at_], .int .i64 q1]) []) := by kernel_rfl
theorem lexer_next_loops (R : Type) : ∀ a ∈ loopsOf (codeOf Tryz.f48), LoopOk tt (lexer_next_E R quote_Unquote decimal_Parse lexer_while) (lexer_next_T R) 0 a := by
  refine loops_ok 0 (by kernel_rfl) fun i hi => ?_
  omega
theorem lexer_next_S_ok (R : Type) (other : Yard.Spec R) (ho : Yard.Spec.Ok Tryz.prog 48 other) : Yard.Spec.Ok Tryz.prog 48 (specBy lexer_next_p lexer_next_q (lexer_next_rr lexer_next) other) :=
  specBy_ok ho (funK_sound TT mixed (lexer_next_EOk R) (keep := false) rfl rfl rfl rfl 0 (lexer_next_loops R)) fun (x : Pat.dens lexer_next_p) (y : HPat.dens lexer_next_q) k => lexer_next_ok quote_Unquote decimal_Parse lexer_while x.1 k

/-! ### humpyard/lexer.Scan -/
abbrev lexer_Scan_ty (R : Type) : Type := Str → ((List Token) → Int → Int → Option R) → Option R
abbrev lexer_Scan_p : List Pat := [.leaf (.str)]
abbrev lexer_Scan_q : List HPat := []
noncomputable def lexer_Scan_rr {R : Type} (fn : lexer_Scan_ty R) : Pat.dens lexer_Scan_p → HPat.dens lexer_Scan_q → (V → Heap → Option R) → Option R := fun x y k => fn x.1 (fun q0 q1 q2 => k (.tuple [.sl .token q0 .no, .int .i64 q1, .int .i64 q2]) [])
abbrev lexer_Scan_3_0_ty (R : Type) : Type := Nat → Str → (List Token) → Int → ((List Token) → Int → Int → Option R) → (Int → Int → Option R) → Option R
noncomputable def lexer_Scan_E (R : Type) (lexer_next : lexer_next_ty R) (lexer_while : lexer_while_ty R) : Env R := fun i => match i with
  | 48 => some (true, (specBy lexer_next_p lexer_next_q (lexer_next_rr lexer_next) specNo))
  | 47 => some (true, (specBy lexer_while_p lexer_while_q (lexer_while_rr lexer_while) specNo))
  | _ => none
theorem lexer_Scan_EOk (R : Type) : EOk Tryz.prog (lexer_Scan_E R lexer_next lexer_while) := by
  intro i b sp h
  unfold lexer_Scan_E at h
  split at h
  · cases h; exact ⟨(lexer_next_S_ok R _ (specNo_ok _)), fun h => nomatch h⟩
  · cases h; exact ⟨(lexer_while_S_ok R _ (specNo_ok _)), fun h => nomatch h⟩
  · cases h

noncomputable def lexer_Scan_3_0_B {R : Type} (lexer_next : lexer_next_ty R) (lexer_while : lexer_while_ty R) (rec' : Str → (List Token) → Int → Option R) (x2 : Str) (x3 : List Token) (x4 : Int) (e0 : (List Token) → Int → Int → Option R) (e1 : Int → Int → Option R) : Option R :=
  chk (decide ((0 : Int) ≤ (x2.length : Int)) && decide ((x2.length : Int) ≤ x2.length)) (chk (decide ((0 : Int) ≤ x4) && decide (x4 ≤ (x2.length : Int))) (lexer_while ((x2.drop x4.toNat).take ((x2.length : Int).toNat - x4.toNat)) ([32, 9, 10, 13] : Str) (fun y5 => bif ((IntKind.i64.wrap (x4 + (y5.length : Int))) == (x2.length : Int)) then (chk (decide ((x3.length + 1) * 48 ≤ 140737488355328)) (e0 (x3 ++ ([(⟨5, ([] : Str), ⟨0, 0⟩, (IntKind.i64.wrap (x4 + (y5.length : Int)))⟩ : Token)] : List Token)) 0 0)) else (chk (decide ((0 : Int) ≤ (x2.length : Int)) && decide ((x2.length : Int) ≤ x2.length)) (chk (decide ((0 : Int) ≤ (IntKind.i64.wrap (x4 + (y5.length : Int)))) && decide ((IntKind.i64.wrap (x4 + (y5.length : Int))) ≤ (x2.length : Int))) (lexer_next ((x2.drop (IntKind.i64.wrap (x4 + (y5.length : Int))).toNat).take ((x2.length : Int).toNat - (IntKind.i64.wrap (x4 + (y5.length : Int))).toNat)) (fun y6 y7 => bif (y7 == 0) then (e1 30 (IntKind.i64.wrap (x4 + (y5.length : Int)))) else (chk (decide ((x3.length + 1) * 48 ≤ 140737488355328)) (rec' x2 (x3 ++ ([(⟨y6.kind, y6.text, ⟨y6.num.mant, y6.num.exp⟩, (IntKind.i64.wrap (x4 + (y5.length : Int)))⟩ : Token)] : List Token)) (IntKind.i64.wrap ((IntKind.i64.wrap (x4 + (y5.length : Int))) + y7)))))))))))
noncomputable def lexer_Scan_3_0_L {R : Type} : lexer_Scan_3_0_ty R
  | 0, _, _, _, _, _ => none
  | n + 1, x0', x1', x2', e0, e1 => lexer_Scan_3_0_B lexer_next lexer_while (fun x0' x1' x2' => lexer_Scan_3_0_L n x0' x1' x2' e0 e1) x0' x1' x2' e0 e1
noncomputable def lexer_Scan_3_0_h : Hint := { live := [0, 2, 4], own := [(2, .token)], rows := [], cells := [], drop := [], out := [2, 3, 4] }
abbrev lexer_Scan_3_0_D : Type := Str × (List Token) × Int
noncomputable def lexer_Scan_3_0_enc : lexer_Scan_3_0_D → St := fun d => ⟨[.str d.1, .undef, .sl .token d.2.1 (.own 0), .undef, .int .i64 d.2.2, .undef, .undef, .undef, .undef, .undef, .undef, .undef, .undef, .undef, .undef, .undef, .undef, .undef, .undef, .undef, .undef, .undef, .undef, .undef, .undef, .undef, .undef, .undef, .undef, .undef, .undef, .undef, .undef, .undef, .undef, .undef, .undef, .undef, .undef, .undef, .undef, .undef, .undef, .undef, .undef], [.tok]⟩
noncomputable def lexer_Scan_3_0_x0 {R : Type} (K : Ex → St → Option R) (q0 : List Token) (q1 : Int) (q2 : Int) : Option R := K (.ret) ⟨[.undef, .undef, .sl .token q0 (.own 0), .int .i64 q1, .int .i64 q2, .undef, .undef, .undef, .undef, .undef, .undef, .undef, .undef, .undef, .undef, .undef, .undef, .undef, .undef, .undef, .undef, .undef, .undef, .undef, .undef, .undef, .undef, .undef, .undef, .undef, .undef, .undef, .undef, .undef, .undef, .undef, .undef, .undef, .undef, .undef, .undef, .undef, .undef, .undef, .undef], [.tok]⟩
noncomputable def lexer_Scan_3_0_x1 {R : Type} (K : Ex → St → Option R) (q0 : Int) (q1 : Int) : Option R := K (.ret) ⟨[.undef, .undef, .nilsl, .int .i64 q0, .int .i64 q1, .undef, .undef, .undef, .undef, .undef, .undef, .undef, .undef, .undef, .undef, .undef, .undef, .undef, .undef, .undef, .undef, .undef, .undef, .undef, .undef, .undef, .undef, .undef, .undef, .undef, .undef, .undef, .undef, .undef, .undef, .undef, .undef, .undef, .undef, .undef, .undef, .undef, .undef, .undef, .undef], []⟩
noncomputable def lexer_Scan_3_0_s {R : Type} (lexer_next : lexer_next_ty R) (lexer_while : lexer_while_ty R) (K : Ex → St → Option R) (rc : lexer_Scan_3_0_D → Option R) (d : lexer_Scan_3_0_D) : Option R := lexer_Scan_3_0_B lexer_next lexer_while (fun z0 z1 z2 => rc (z0, z1, z2)) d.1 d.2.1 d.2.2 (lexer_Scan_3_0_x0 K) (lexer_Scan_3_0_x1 K)
noncomputable def lexer_Scan_3_0_A {R : Type} (K : Ex → St → Option R) (n : Nat) (d : lexer_Scan_3_0_D) : Option R := lexer_Scan_3_0_L n d.1 d.2.1 d.2.2 (lexer_Scan_3_0_x0 K) (lexer_Scan_3_0_x1 K)
abbrev lexer_Scan_3_0_p : List Pat := [.leaf (.str), .leaf (.undef), .leaf (.slo .token 0), .leaf (.undef), .leaf (.int .i64), .leaf (.undef), .leaf (.undef), .leaf (.undef), .leaf (.undef), .leaf (.undef), .leaf (.undef), .leaf (.undef), .leaf (.undef), .leaf (.undef), .leaf (.undef), .leaf (.undef), .leaf (.undef), .leaf (.undef), .leaf (.undef), .leaf (.undef), .leaf (.undef), .leaf (.undef), .leaf (.undef), .leaf (.undef), .leaf (.undef), .leaf (.undef), .leaf (.undef), .leaf (.undef), .leaf (.undef), .leaf (.undef), .leaf (.undef), .leaf (.undef), .leaf (.undef), .leaf (.undef), .leaf (.undef), .leaf (.undef), .leaf (.undef), .leaf (.undef), .leaf (.undef), .leaf (.undef), .leaf (.undef), .leaf (.undef), .leaf (.undef), .leaf (.undef), .leaf (.undef)]
abbrev lexer_Scan_3_0_q : List HPat := [.tok]
noncomputable def lexer_Scan_3_0_f (x : Pat.dens lexer_Scan_3_0_p) (y : HPat.dens lexer_Scan_3_0_q) : Nat := (List.length x.1 + List.length x.2.2.1 + Int.natAbs x.2.2.2.2.1 + 64)
noncomputable def lexer_Scan_3_0_d (x : Pat.dens lexer_Scan_3_0_p) (y : HPat.dens lexer_Scan_3_0_q) : lexer_Scan_3_0_D := (x.1, x.2.2.1, x.2.2.2.2.1)
noncomputable def lexer_Scan_3_0_rr {R : Type} (L : lexer_Scan_3_0_ty R) : Pat.dens lexer_Scan_3_0_p → HPat.dens lexer_Scan_3_0_q → (Ex → St → Option R) → Option R := fun x y K => L (lexer_Scan_3_0_f x y) x.1 x.2.2.1 x.2.2.2.2.1 (lexer_Scan_3_0_x0 K) (lexer_Scan_3_0_x1 K)
noncomputable def lexer_Scan_T (R : Type) (lexer_Scan_3_0_L : lexer_Scan_3_0_ty R) : Nat → Option (Hint × LSpec R) := fun i => match i with
  | 3 => some (lexer_Scan_3_0_h, (loopBy lexer_Scan_3_0_p lexer_Scan_3_0_q (lexer_Scan_3_0_rr lexer_Scan_3_0_L) loopNo))
  | _ => none

theorem lexer_Scan_3_0_B_ok {R : Type} (lexer_next : lexer_next_ty R) (lexer_while : lexer_while_ty R) (lexer_Scan_3_0_L : lexer_Scan_3_0_ty R) (K : Ex → St → Option R) (rc : St → Option R) (d : lexer_Scan_3_0_D) : roundOf tt (lexer_Scan_E R lexer_next lexer_while) (lexer_Scan_T R lexer_Scan_3_0_L) 0 ((loopsOf (codeOf Tryz.f25)).getD 0 .skip) lexer_Scan_3_0_h (lexer_Scan_3_0_enc d) rc K = lexer_Scan_3_0_s lexer_next lexer_while K (fun d => rc (lexer_Scan_3_0_enc d)) d := by kernel_rfl
theorem lexer_Scan_3_0_A_succ {R : Type} (K : Ex → St → Option R) (n : Nat) (d : lexer_Scan_3_0_D) : lexer_Scan_3_0_A K (n + 1) d = lexer_Scan_3_0_s lexer_next lexer_while K (lexer_Scan_3_0_A K n) d := by kernel_rfl
theorem lexer_Scan_3_0_A_zero {R : Type} (K : Ex → St → Option R) (d : lexer_Scan_3_0_D) : lexer_Scan_3_0_A K 0 d = none := by kernel_rfl
theorem lexer_Scan_3_0_e_ok (x : Pat.dens lexer_Scan_3_0_p) (y : HPat.dens lexer_Scan_3_0_q) : (⟨Pat.encL lexer_Scan_3_0_p x, HPat.encL lexer_Scan_3_0_q y⟩ : St) = lexer_Scan_3_0_enc (lexer_Scan_3_0_d x y) := by kernel_rfl
theorem lexer_Scan_3_0_r_ok {R : Type} (x : Pat.dens lexer_Scan_3_0_p) (y : HPat.dens lexer_Scan_3_0_q) (K : Ex → St → Option R) : lexer_Scan_3_0_rr (lexer_Scan_3_0_L) x y K = lexer_Scan_3_0_A K (lexer_Scan_3_0_f x y) (lexer_Scan_3_0_d x y) := by kernel_rfl
theorem lexer_Scan_3_0_ok {R : Type} (other : LSpec R) (ho : LsOk tt (lexer_Scan_E R lexer_next lexer_while) (lexer_Scan_T R lexer_Scan_3_0_L) 0 ((loopsOf (codeOf Tryz.f25)).getD 0 .skip) lexer_Scan_3_0_h other) : LsOk tt (lexer_Scan_E R lexer_next lexer_while) (lexer_Scan_T R lexer_Scan_3_0_L) 0 ((loopsOf (codeOf Tryz.f25)).getD 0 .skip) lexer_Scan_3_0_h (loopBy lexer_Scan_3_0_p lexer_Scan_3_0_q (lexer_Scan_3_0_rr (lexer_Scan_3_0_L)) other) :=
  loopBy_tie (A := lexer_Scan_3_0_A) ho (loop_tie lexer_Scan_3_0_enc (lexer_Scan_3_0_s lexer_next lexer_while) (lexer_Scan_3_0_A) (lexer_Scan_3_0_A_zero) (lexer_Scan_3_0_B_ok lexer_next lexer_while lexer_Scan_3_0_L) (lexer_Scan_3_0_A_succ)) lexer_Scan_3_0_f lexer_Scan_3_0_d lexer_Scan_3_0_e_ok (lexer_Scan_3_0_r_ok)

noncomputable def lexer_Scan_X {R : Type} (lexer_Scan_3_0_L : lexer_Scan_3_0_ty R) (x1 : Str) (k0 : (List Token) → Int → Int → Option R) : Option R :=
  bif (decide ((x1.length : Int) > (20000 : Int))) then (k0 ([] : List Token) 30 0) else (lexer_Scan_3_0_L (List.length x1 + List.length ([] : List Token) + Int.natAbs 0 + 64) x1 ([] : List Token) 0 (fun y8 y9 y10 => k0 y8 y9 y10) (fun y11 y12 => k0 ([] : List Token) y11 y12))
noncomputable def lexer_Scan {R : Type} : lexer_Scan_ty R := fun x1 k0 => lexer_Scan_X lexer_Scan_3_0_L x1 k0
theorem lexer_Scan_ok {R : Type} (lexer_next : lexer_next_ty R) (lexer_while : lexer_while_ty R) (lexer_Scan_3_0_L : lexer_Scan_3_0_ty R) (x1 : Str) (k : V → Heap → Option R) : funK tt (lexer_Scan_E R lexer_next lexer_while) (lexer_Scan_T R lexer_Scan_3_0_L) false Tryz.f25 (codeOf Tryz.f25) [.str x1] [] k =
    lexer_Scan_X lexer_Scan_3_0_L x1 (fun q0 q1 q2 => k (.tuple [.sl .token q0 .no, .int .i64 q1, .int .i64 q2]) []) := by kernel_rfl
theorem lexer_Scan_loops (R : Type) : ∀ a ∈ loopsOf (codeOf Tryz.f25), LoopOk tt (lexer_Scan_E R lexer_next lexer_while) (lexer_Scan_T R lexer_Scan_3_0_L) 0 a := by
  refine loops_ok 1 (by kernel_rfl) fun i hi => ?_
  match i, hi with
  | 0, _ => exact loopOk_some (by kernel_rfl) (lexer_Scan_3_0_ok _ loopNo_ok)
  | n + 1, hi => omega
theorem lexer_Scan_S_ok (R : Type) (other : Yard.Spec R) (ho : Yard.Spec.Ok Tryz.prog 25 other) : Yard.Spec.Ok Tryz.prog 25 (specBy lexer_Scan_p lexer_Scan_q (lexer_Scan_rr lexer_Scan) other) :=
  specBy_ok ho (funK_sound TT mixed (lexer_Scan_EOk R) (keep := false) rfl rfl rfl rfl 0 (lexer_Scan_loops R)) fun (x : Pat.dens lexer_Scan_p) (y : HPat.dens lexer_Scan_q) k => lexer_Scan_ok lexer_next lexer_while lexer_Scan_3_0_L x.1 k

/-! ### humpyard/humpyardlaw03.awake -/
abbrev law03_awake_ty (R : Type) : Type := (Bool → Option R) → Option R
abbrev law03_awake_p : List Pat := []
abbrev law03_awake_q : List HPat := []
noncomputable def law03_awake_rr {R : Type} (fn : law03_awake_ty R) : Pat.dens law03_awake_p → HPat.dens law03_awake_q → (V → Heap → Option R) → Option R := fun x y k => fn (fun q0 => k (.bool q0) [])
noncomputable def law03_awake_E (R : Type) (lexer_Scan : lexer_Scan_ty R) : Env R := fun i => match i with
  | 25 => some (true, (specBy lexer_Scan_p lexer_Scan_q (lexer_Scan_rr lexer_Scan) specNo))
  | _ => none
theorem law03_awake_EOk (R : Type) : EOk Tryz.prog (law03_awake_E R lexer_Scan) := by
  intro i b sp h
  unfold law03_awake_E at h
  split at h
  · cases h; exact ⟨(lexer_Scan_S_ok R _ (specNo_ok _)), fun h => nomatch h⟩
  · cases h

noncomputable def law03_awake_T (R : Type) : Nat → Option (Hint × LSpec R) := fun i => match i with
  | _ => none

noncomputable def law03_awake_X {R : Type} (lexer_Scan : lexer_Scan_ty R) (k0 : Bool → Option R) : Option R :=
  lexer_Scan ([91, 49, 44, 32, 34, 97, 34, 93] : Str) (fun y1 y2 y3 => lexer_Scan ([32, 116, 114, 117] : Str) (fun y4 y5 y6 => bif ((y1.length : Int) == 6) then (bif (y2 == 0) then (bif (y3 == 0) then (chk (decide ((1 : Int) < y1.length)) (bif ((y1.getD 1 (Ty.dflt .token)).kind == 3 && ((y1.getD 1 (Ty.dflt .token)).text == ([49] : Str) && ((y1.getD 1 (Ty.dflt .token)).num.mant == 1 && ((y1.getD 1 (Ty.dflt .token)).num.exp == 0 && ((y1.getD 1 (Ty.dflt .token)).at_ == 1 && true))))) then (chk (decide ((3 : Int) < y1.length)) (bif ((y1.getD 3 (Ty.dflt .token)).kind == 2 && ((y1.getD 3 (Ty.dflt .token)).text == ([97] : Str) && ((y1.getD 3 (Ty.dflt .token)).num.mant == 0 && ((y1.getD 3 (Ty.dflt .token)).num.exp == 0 && ((y1.getD 3 (Ty.dflt .token)).at_ == 4 && true))))) then (chk (decide ((5 : Int) < y1.length)) (bif ((y1.getD 5 (Ty.dflt .token)).kind == 5 && ((y1.getD 5 (Ty.dflt .token)).text == ([] : Str) && ((y1.getD 5 (Ty.dflt .token)).num.mant == 0 && ((y1.getD 5 (Ty.dflt .token)).num.exp == 0 && ((y1.getD 5 (Ty.dflt .token)).at_ == 8 && true))))) then (bif (y5 == 30) then (k0 (y6 == 1)) else (k0 false)) else (k0 false))) else (k0 false))) else (k0 false))) else (k0 false)) else (k0 false)) else (k0 false)))
noncomputable def law03_awake {R : Type} : law03_awake_ty R := fun  k0 => law03_awake_X lexer_Scan  k0
theorem law03_awake_ok {R : Type} (lexer_Scan : lexer_Scan_ty R) (k : V → Heap → Option R) : funK tt (law03_awake_E R lexer_Scan) (law03_awake_T R) false Tryz.f23 (codeOf Tryz.f23) [] [] k =
    law03_awake_X lexer_Scan  (fun q0 => k (.bool q0) []) := by kernel_rfl
theorem law03_awake_loops (R : Type) : ∀ a ∈ loopsOf (codeOf Tryz.f23), LoopOk tt (law03_awake_E R lexer_Scan) (law03_awake_T R) 0 a := by
  refine loops_ok 0 (by kernel_rfl) fun i hi => ?_
  omega
theorem law03_awake_S_ok (R : Type) (other : Yard.Spec R) (ho : Yard.Spec.Ok Tryz.prog 23 other) : Yard.Spec.Ok Tryz.prog 23 (specBy law03_awake_p law03_awake_q (law03_awake_rr law03_awake) other) :=
  specBy_ok ho (funK_sound TT mixed (law03_awake_EOk R) (keep := false) rfl rfl rfl rfl 0 (law03_awake_loops R)) fun (x : Pat.dens law03_awake_p) (y : HPat.dens law03_awake_q) k => law03_awake_ok lexer_Scan  k

end Go.Proofs.YtmlkkgfenfdndaaGreatDoor

/-
  Functions of the program as pure Lean functions, and the ties; printed by wip/tools/emit.py.
-/
set_option maxRecDepth 100000
set_option linter.unusedVariables false
namespace Go.Proofs.YtmlkkgfenfdndaaGreatDoor
open Go Go.Yard

/-! ### humpyard/quote.Quote -/
abbrev quote_Quote_ty (R : Type) : Type := Str → (Str → Bool → Option R) → Option R
abbrev quote_Quote_p : List Pat := [.leaf (.str)]
abbrev quote_Quote_q : List HPat := []
noncomputable def quote_Quote_rr {R : Type} (fn : quote_Quote_ty R) : Pat.dens quote_Quote_p → HPat.dens quote_Quote_q → (V → Heap → Option R) → Option R := fun x y k => fn x.1 (fun q0 q1 => k (.tuple [.str q0, .bool q1]) [])
abbrev quote_Quote_6_0_ty (R : Type) : Type := Nat → (List Int) → Str → Nat → ((List Int) → Option R) → Option R
noncomputable def quote_Quote_E (R : Type) (quote_Whole : quote_Whole_ty R) (strings_Builder_WriteByte_b66c : strings_Builder_WriteByte_b66c_ty R) (strings_Builder_WriteByte_4b84 : strings_Builder_WriteByte_4b84_ty R) (quote_short : quote_short_ty R) (strings_Builder_WriteString_df1e : strings_Builder_WriteString_df1e_ty R) (strings_Builder_WriteRune_dc6e : strings_Builder_WriteRune_dc6e_ty R) : Env R := fun i => match i with
  | 49 => some (true, (specBy quote_Whole_p quote_Whole_q (quote_Whole_rr quote_Whole) specNo))
  | 50 => some (false, (specBy strings_Builder_WriteByte_4b84_p strings_Builder_WriteByte_4b84_q (strings_Builder_WriteByte_4b84_rr strings_Builder_WriteByte_4b84) (specBy strings_Builder_WriteByte_b66c_p strings_Builder_WriteByte_b66c_q (strings_Builder_WriteByte_b66c_rr strings_Builder_WriteByte_b66c) specNo)))
  | 51 => some (true, (specBy quote_short_p quote_short_q (quote_short_rr quote_short) specNo))
  | 52 => some (false, (specBy strings_Builder_WriteString_df1e_p strings_Builder_WriteString_df1e_q (strings_Builder_WriteString_df1e_rr strings_Builder_WriteString_df1e) specNo))
  | 53 => some (false, (specBy strings_Builder_WriteRune_dc6e_p strings_Builder_WriteRune_dc6e_q (strings_Builder_WriteRune_dc6e_rr strings_Builder_WriteRune_dc6e) specNo))
  | 39 => some (false, (bstr_S R))
  | _ => none
theorem quote_Quote_EOk (R : Type) : EOk Tryz.prog (quote_Quote_E R quote_Whole strings_Builder_WriteByte_b66c strings_Builder_WriteByte_4b84 quote_short strings_Builder_WriteString_df1e strings_Builder_WriteRune_dc6e) := by
  intro i b sp h
  unfold quote_Quote_E at h
  split at h
  · cases h; exact ⟨(quote_Whole_S_ok R _ (specNo_ok _)), fun h => nomatch h⟩
  · cases h; exact ⟨(strings_Builder_WriteByte_4b84_S_ok R _ (strings_Builder_WriteByte_b66c_S_ok R _ (specNo_ok _))), fun _ h => nomatch h⟩
  · cases h; exact ⟨(quote_short_S_ok R _ (specNo_ok _)), fun h => nomatch h⟩
  · cases h; exact ⟨(strings_Builder_WriteString_df1e_S_ok R _ (specNo_ok _)), fun _ h => nomatch h⟩
  · cases h; exact ⟨(strings_Builder_WriteRune_dc6e_S_ok R _ (specNo_ok _)), fun _ h => nomatch h⟩
  · cases h; exact ⟨(bstr_is), fun _ _ => bstr_soft⟩
  · cases h

noncomputable def quote_Quote_6_0_B {R : Type} (strings_Builder_WriteByte_4b84 : strings_Builder_WriteByte_4b84_ty R) (quote_short : quote_short_ty R) (strings_Builder_WriteString_df1e : strings_Builder_WriteString_df1e_ty R) (strings_Builder_WriteRune_dc6e : strings_Builder_WriteRune_dc6e_ty R) (rec' : (List Int) → Str → Nat → Option R) (x4 : List Int) (x5 : Str) (x6 : Nat) (e0 : (List Int) → Option R) : Option R :=
  bif decide (x6 < x5.length) then (quote_short ((runeAt x5 x6).1 : Int) (fun y7 => bif (y7 != 0) then (strings_Builder_WriteByte_4b84 92 x4 (fun y8 => strings_Builder_WriteByte_4b84 y7 y8 (fun y9 => rec' y9 x5 (x6 + (runeAt x5 x6).2)))) else (bif (decide (((runeAt x5 x6).1 : Int) < (32 : Int))) then (strings_Builder_WriteString_df1e ([92, 117, 48, 48] : Str) x4 (fun y10 y11 => chk (decide ((0 : Int) ≤ (Int.fdiv ((runeAt x5 x6).1 : Int) (2 ^ (min 4 IntKind.i32.bits)))) && decide ((Int.fdiv ((runeAt x5 x6).1 : Int) (2 ^ (min 4 IntKind.i32.bits))) < (16 : Int))) (strings_Builder_WriteByte_4b84 ((([48, 49, 50, 51, 52, 53, 54, 55, 56, 57, 97, 98, 99, 100, 101, 102] : Str).getD ((Int.fdiv ((runeAt x5 x6).1 : Int) (2 ^ (min 4 IntKind.i32.bits))).toNat) 0).toNat : Int) y11 (fun y12 => chk (decide ((0 : Int) ≤ (IntKind.i32.wrap ((BitVec.ofInt IntKind.i32.bits ((runeAt x5 x6).1 : Int) &&& BitVec.ofInt IntKind.i32.bits 15).toNat : Int))) && decide ((IntKind.i32.wrap ((BitVec.ofInt IntKind.i32.bits ((runeAt x5 x6).1 : Int) &&& BitVec.ofInt IntKind.i32.bits 15).toNat : Int)) < (16 : Int))) (strings_Builder_WriteByte_4b84 ((([48, 49, 50, 51, 52, 53, 54, 55, 56, 57, 97, 98, 99, 100, 101, 102] : Str).getD ((IntKind.i32.wrap ((BitVec.ofInt IntKind.i32.bits ((runeAt x5 x6).1 : Int) &&& BitVec.ofInt IntKind.i32.bits 15).toNat : Int)).toNat) 0).toNat : Int) y12 (fun y13 => rec' y13 x5 (x6 + (runeAt x5 x6).2))))))) else (strings_Builder_WriteRune_dc6e ((runeAt x5 x6).1 : Int) x4 (fun y14 y15 => rec' y15 x5 (x6 + (runeAt x5 x6).2)))))) else (e0 x4)
noncomputable def quote_Quote_6_0_L {R : Type} : quote_Quote_6_0_ty R
  | 0, _, _, _, _ => none
  | n + 1, x0', x1', x2', e0 => quote_Quote_6_0_B strings_Builder_WriteByte_4b84 quote_short strings_Builder_WriteString_df1e strings_Builder_WriteRune_dc6e (fun x0' x1' x2' => quote_Quote_6_0_L n x0' x1' x2' e0) x0' x1' x2' e0
noncomputable def quote_Quote_6_0_h : Hint := { live := [4, 13], own := [], rows := [], cells := [], drop := [], out := [2, 3, 4] }
abbrev quote_Quote_6_0_D : Type := (List Int) × Str × Nat
noncomputable def quote_Quote_6_0_enc : quote_Quote_6_0_D → St := fun d => ⟨[.undef, .undef, .undef, .undef, .ptr 0 0, .undef, .undef, .undef, .undef, .undef, .undef, .undef, .undef, .ptr 1 0, .undef, .undef, .undef, .undef, .undef, .undef, .undef, .undef, .undef, .undef, .undef, .undef, .undef, .undef, .undef, .undef, .undef, .undef, .undef, .undef, .undef, .undef, .undef, .undef, .undef, .undef, .undef], [.bld (.sl (.int .u8) d.1 (.own 2)), .iter d.2.1 d.2.2, .tok]⟩
noncomputable def quote_Quote_6_0_x0 {R : Type} (K : Ex → St → Option R) (q0 : List Int) : Option R := K (.exit 0) ⟨[.undef, .undef, .undef, .undef, .ptr 0 0, .undef, .undef, .undef, .undef, .undef, .undef, .undef, .undef, .undef, .undef, .undef, .undef, .undef, .undef, .undef, .undef, .undef, .undef, .undef, .undef, .undef, .undef, .undef, .undef, .undef, .undef, .undef, .undef, .undef, .undef, .undef, .undef, .undef, .undef, .undef, .undef], [.bld (.sl (.int .u8) q0 (.own 1)), .tok]⟩
noncomputable def quote_Quote_6_0_s {R : Type} (strings_Builder_WriteByte_4b84 : strings_Builder_WriteByte_4b84_ty R) (quote_short : quote_short_ty R) (strings_Builder_WriteString_df1e : strings_Builder_WriteString_df1e_ty R) (strings_Builder_WriteRune_dc6e : strings_Builder_WriteRune_dc6e_ty R) (K : Ex → St → Option R) (rc : quote_Quote_6_0_D → Option R) (d : quote_Quote_6_0_D) : Option R := quote_Quote_6_0_B strings_Builder_WriteByte_4b84 quote_short strings_Builder_WriteString_df1e strings_Builder_WriteRune_dc6e (fun z0 z1 z2 => rc (z0, z1, z2)) d.1 d.2.1 d.2.2 (quote_Quote_6_0_x0 K)
noncomputable def quote_Quote_6_0_A {R : Type} (K : Ex → St → Option R) (n : Nat) (d : quote_Quote_6_0_D) : Option R := quote_Quote_6_0_L n d.1 d.2.1 d.2.2 (quote_Quote_6_0_x0 K)
abbrev quote_Quote_6_0_p : List Pat := [.leaf (.undef), .leaf (.undef), .leaf (.undef), .leaf (.undef), .leaf (.ptr 0 0), .leaf (.undef), .leaf (.undef), .leaf (.undef), .leaf (.undef), .leaf (.undef), .leaf (.undef), .leaf (.undef), .leaf (.undef), .leaf (.ptr 1 0), .leaf (.undef), .leaf (.undef), .leaf (.undef), .leaf (.undef), .leaf (.undef), .leaf (.undef), .leaf (.undef), .leaf (.undef), .leaf (.undef), .leaf (.undef), .leaf (.undef), .leaf (.undef), .leaf (.undef), .leaf (.undef), .leaf (.undef), .leaf (.undef), .leaf (.undef), .leaf (.undef), .leaf (.undef), .leaf (.undef), .leaf (.undef), .leaf (.undef), .leaf (.undef), .leaf (.undef), .leaf (.undef), .leaf (.undef), .leaf (.undef)]
abbrev quote_Quote_6_0_q : List HPat := [.bld (.slo (.int .u8) 2), .iter, .tok]
noncomputable def quote_Quote_6_0_f (x : Pat.dens quote_Quote_6_0_p) (y : HPat.dens quote_Quote_6_0_q) : Nat := (List.length y.1 + List.length y.2.1.1 + 64)
noncomputable def quote_Quote_6_0_d (x : Pat.dens quote_Quote_6_0_p) (y : HPat.dens quote_Quote_6_0_q) : quote_Quote_6_0_D := (y.1, y.2.1.1, y.2.1.2)
noncomputable def quote_Quote_6_0_rr {R : Type} (L : quote_Quote_6_0_ty R) : Pat.dens quote_Quote_6_0_p → HPat.dens quote_Quote_6_0_q → (Ex → St → Option R) → Option R := fun x y K => L (quote_Quote_6_0_f x y) y.1 y.2.1.1 y.2.1.2 (quote_Quote_6_0_x0 K)
noncomputable def quote_Quote_T (R : Type) (quote_Quote_6_0_L : quote_Quote_6_0_ty R) : Nat → Option (Hint × LSpec R) := fun i => match i with
  | 6 => some (quote_Quote_6_0_h, (loopBy quote_Quote_6_0_p quote_Quote_6_0_q (quote_Quote_6_0_rr quote_Quote_6_0_L) loopNo))
  | _ => none

theorem quote_Quote_6_0_B_ok {R : Type} (quote_Whole : quote_Whole_ty R) (strings_Builder_WriteByte_b66c : strings_Builder_WriteByte_b66c_ty R) (strings_Builder_WriteByte_4b84 : strings_Builder_WriteByte_4b84_ty R) (quote_short : quote_short_ty R) (strings_Builder_WriteString_df1e : strings_Builder_WriteString_df1e_ty R) (strings_Builder_WriteRune_dc6e : strings_Builder_WriteRune_dc6e_ty R) (quote_Quote_6_0_L : quote_Quote_6_0_ty R) (K : Ex → St → Option R) (rc : St → Option R) (d : quote_Quote_6_0_D) : roundOf tt (quote_Quote_E R quote_Whole strings_Builder_WriteByte_b66c strings_Builder_WriteByte_4b84 quote_short strings_Builder_WriteString_df1e strings_Builder_WriteRune_dc6e) (quote_Quote_T R quote_Quote_6_0_L) 0 ((loopsOf (codeOf Tryz.f26)).getD 0 .skip) quote_Quote_6_0_h (quote_Quote_6_0_enc d) rc K = quote_Quote_6_0_s strings_Builder_WriteByte_4b84 quote_short strings_Builder_WriteString_df1e strings_Builder_WriteRune_dc6e K (fun d => rc (quote_Quote_6_0_enc d)) d := by kernel_rfl
theorem quote_Quote_6_0_A_succ {R : Type} (K : Ex → St → Option R) (n : Nat) (d : quote_Quote_6_0_D) : quote_Quote_6_0_A K (n + 1) d = quote_Quote_6_0_s strings_Builder_WriteByte_4b84 quote_short strings_Builder_WriteString_df1e strings_Builder_WriteRune_dc6e K (quote_Quote_6_0_A K n) d := by kernel_rfl
theorem quote_Quote_6_0_A_zero {R : Type} (K : Ex → St → Option R) (d : quote_Quote_6_0_D) : quote_Quote_6_0_A K 0 d = none := by kernel_rfl
theorem quote_Quote_6_0_e_ok (x : Pat.dens quote_Quote_6_0_p) (y : HPat.dens quote_Quote_6_0_q) : (⟨Pat.encL quote_Quote_6_0_p x, HPat.encL quote_Quote_6_0_q y⟩ : St) = quote_Quote_6_0_enc (quote_Quote_6_0_d x y) := by kernel_rfl
theorem quote_Quote_6_0_r_ok {R : Type} (x : Pat.dens quote_Quote_6_0_p) (y : HPat.dens quote_Quote_6_0_q) (K : Ex → St → Option R) : quote_Quote_6_0_rr (quote_Quote_6_0_L) x y K = quote_Quote_6_0_A K (quote_Quote_6_0_f x y) (quote_Quote_6_0_d x y) := by kernel_rfl
theorem quote_Quote_6_0_ok {R : Type} (other : LSpec R) (ho : LsOk tt (quote_Quote_E R quote_Whole strings_Builder_WriteByte_b66c strings_Builder_WriteByte_4b84 quote_short strings_Builder_WriteString_df1e strings_Builder_WriteRune_dc6e) (quote_Quote_T R quote_Quote_6_0_L) 0 ((loopsOf (codeOf Tryz.f26)).getD 0 .skip) quote_Quote_6_0_h other) : LsOk tt (quote_Quote_E R quote_Whole strings_Builder_WriteByte_b66c strings_Builder_WriteByte_4b84 quote_short strings_Builder_WriteString_df1e strings_Builder_WriteRune_dc6e) (quote_Quote_T R quote_Quote_6_0_L) 0 ((loopsOf (codeOf Tryz.f26)).getD 0 .skip) quote_Quote_6_0_h (loopBy quote_Quote_6_0_p quote_Quote_6_0_q (quote_Quote_6_0_rr (quote_Quote_6_0_L)) other) :=
  loopBy_tie (A := quote_Quote_6_0_A) ho (loop_tie quote_Quote_6_0_enc (quote_Quote_6_0_s strings_Builder_WriteByte_4b84 quote_short strings_Builder_WriteString_df1e strings_Builder_WriteRune_dc6e) (quote_Quote_6_0_A) (quote_Quote_6_0_A_zero) (quote_Quote_6_0_B_ok quote_Whole strings_Builder_WriteByte_b66c strings_Builder_WriteByte_4b84 quote_short strings_Builder_WriteString_df1e strings_Builder_WriteRune_dc6e quote_Quote_6_0_L) (quote_Quote_6_0_A_succ)) quote_Quote_6_0_f quote_Quote_6_0_d quote_Quote_6_0_e_ok (quote_Quote_6_0_r_ok)

noncomputable def quote_Quote_X {R : Type} (quote_Whole : quote_Whole_ty R) (strings_Builder_WriteByte_b66c : strings_Builder_WriteByte_b66c_ty R) (strings_Builder_WriteByte_4b84 : strings_Builder_WriteByte_4b84_ty R) (quote_Quote_6_0_L : quote_Quote_6_0_ty R) (x1 : Str) (k0 : Str → Bool → Option R) : Option R :=
  quote_Whole x1 (fun y2 => bif (!y2) then (k0 ([] : Str) false) else (strings_Builder_WriteByte_b66c 34 (fun y3 => quote_Quote_6_0_L (List.length y3 + List.length x1 + 64) y3 x1 0 (fun y16 => strings_Builder_WriteByte_4b84 34 y16 (fun y17 => k0 (bstr y17) true)))))
noncomputable def quote_Quote {R : Type} : quote_Quote_ty R := fun x1 k0 => quote_Quote_X quote_Whole strings_Builder_WriteByte_b66c strings_Builder_WriteByte_4b84 quote_Quote_6_0_L x1 k0
theorem quote_Quote_ok {R : Type} (quote_Whole : quote_Whole_ty R) (strings_Builder_WriteByte_b66c : strings_Builder_WriteByte_b66c_ty R) (strings_Builder_WriteByte_4b84 : strings_Builder_WriteByte_4b84_ty R) (quote_short : quote_short_ty R) (strings_Builder_WriteString_df1e : strings_Builder_WriteString_df1e_ty R) (strings_Builder_WriteRune_dc6e : strings_Builder_WriteRune_dc6e_ty R) (quote_Quote_6_0_L : quote_Quote_6_0_ty R) (x1 : Str) (k : V → Heap → Option R) : funK tt (quote_Quote_E R quote_Whole strings_Builder_WriteByte_b66c strings_Builder_WriteByte_4b84 quote_short strings_Builder_WriteString_df1e strings_Builder_WriteRune_dc6e) (quote_Quote_T R quote_Quote_6_0_L) false Tryz.f26 (codeOf Tryz.f26) [.str x1] [] k =
    quote_Quote_X quote_Whole strings_Builder_WriteByte_b66c strings_Builder_WriteByte_4b84 quote_Quote_6_0_L x1 (fun q0 q1 => k (.tuple [.str q0, .bool q1]) []) := by kernel_rfl
theorem quote_Quote_loops (R : Type) : ∀ a ∈ loopsOf (codeOf Tryz.f26), LoopOk tt (quote_Quote_E R quote_Whole strings_Builder_WriteByte_b66c strings_Builder_WriteByte_4b84 quote_short strings_Builder_WriteString_df1e strings_Builder_WriteRune_dc6e) (quote_Quote_T R quote_Quote_6_0_L) 0 a := by
  refine loops_ok 1 (by kernel_rfl) fun i hi => ?_
  match i, hi with
  | 0, _ => exact loopOk_some (by kernel_rfl) (quote_Quote_6_0_ok _ loopNo_ok)
  | n + 1, hi => omega
theorem quote_Quote_S_ok (R : Type) (other : Yard.Spec R) (ho : Yard.Spec.Ok Tryz.prog 26 other) : Yard.Spec.Ok Tryz.prog 26 (specBy quote_Quote_p quote_Quote_q (quote_Quote_rr quote_Quote) other) :=
  specBy_ok ho (funK_sound TT mixed (quote_Quote_EOk R) (keep := false) rfl rfl rfl rfl 0 (quote_Quote_loops R)) fun (x : Pat.dens quote_Quote_p) (y : HPat.dens quote_Quote_q) k => quote_Quote_ok quote_Whole strings_Builder_WriteByte_b66c strings_Builder_WriteByte_4b84 quote_short strings_Builder_WriteString_df1e strings_Builder_WriteRune_dc6e quote_Quote_6_0_L x.1 k

/-! ### humpyard/humpyardlaw01.pick -/
abbrev law01_pick_ty (R : Type) : Type := Int → Int → (Int → Option R) → Option R
abbrev law01_pick_p : List Pat := [.leaf (.int .i64), .leaf (.int .i64)]
abbrev law01_pick_q : List HPat := []
noncomputable def law01_pick_rr {R : Type} (fn : law01_pick_ty R) : Pat.dens law01_pick_p → HPat.dens law01_pick_q → (V → Heap → Option R) → Option R := fun x y k => fn x.1 x.2.1 (fun q0 => k (.int .i64 q0) [])
noncomputable def law01_pick_E (R : Type) : Env R := fun i => match i with
  | _ => none
theorem law01_pick_EOk (R : Type) : EOk Tryz.prog (law01_pick_E R) := by
  intro i b sp h
  unfold law01_pick_E at h
  split at h
  · cases h

noncomputable def law01_pick_T (R : Type) : Nat → Option (Hint × LSpec R) := fun i => match i with
  | _ => none

noncomputable def law01_pick_X {R : Type} (x1 : Int) (x2 : Int) (k0 : Int → Option R) : Option R :=
  bif (decide (x1 < (0 : Int))) then (chk (!decide (x2 = 0)) (k0 (Int.tmod (IntKind.i64.wrap (0 - (IntKind.i64.wrap (x1 + 1)))) x2))) else (chk (!decide (x2 = 0)) (k0 (Int.tmod x1 x2)))
noncomputable def law01_pick {R : Type} : law01_pick_ty R := fun x1 x2 k0 => law01_pick_X x1 x2 k0
theorem law01_pick_ok {R : Type} (x1 : Int) (x2 : Int) (k : V → Heap → Option R) : funK tt (law01_pick_E R) (law01_pick_T R) false Tryz.f54 (codeOf Tryz.f54) [.int .i64 x1, .int .i64 x2] [] k =
    law01_pick_X x1 x2 (fun q0 => k (.int .i64 q0) []) := by kernel_rfl
theorem law01_pick_loops (R : Type) : ∀ a ∈ loopsOf (codeOf Tryz.f54), LoopOk tt (law01_pick_E R) (law01_pick_T R) 0 a := by
  refine loops_ok 0 (by kernel_rfl) fun i hi => ?_
  omega
theorem law01_pick_S_ok (R : Type) (other : Yard.Spec R) (ho : Yard.Spec.Ok Tryz.prog 54 other) : Yard.Spec.Ok Tryz.prog 54 (specBy law01_pick_p law01_pick_q (law01_pick_rr law01_pick) other) :=
  specBy_ok ho (funK_sound TT mixed (law01_pick_EOk R) (keep := false) rfl rfl rfl rfl 0 (law01_pick_loops R)) fun (x : Pat.dens law01_pick_p) (y : HPat.dens law01_pick_q) k => law01_pick_ok x.1 x.2.1 k

/-! ### humpyard/humpyardlaw01.Fit -/
abbrev law01_Fit_ty (R : Type) : Type := Int → Int → (Dcm → Option R) → Option R
abbrev law01_Fit_p : List Pat := [.leaf (.int .i64), .leaf (.int .i64)]
abbrev law01_Fit_q : List HPat := []
noncomputable def law01_Fit_rr {R : Type} (fn : law01_Fit_ty R) : Pat.dens law01_Fit_p → HPat.dens law01_Fit_q → (V → Heap → Option R) → Option R := fun x y k => fn x.1 x.2.1 (fun q0 => k (.agg [.int .i64 q0.mant, .int .i64 q0.exp]) [])
abbrev law01_Fit_3_0_ty (R : Type) : Type := Nat → Int → Int → Dcm → (Int → Int → Dcm → Option R) → Option R
noncomputable def law01_Fit_E (R : Type) (law01_pick : law01_pick_ty R) : Env R := fun i => match i with
  | 54 => some (true, (specBy law01_pick_p law01_pick_q (law01_pick_rr law01_pick) specNo))
  | _ => none
theorem law01_Fit_EOk (R : Type) : EOk Tryz.prog (law01_Fit_E R law01_pick) := by
  intro i b sp h
  unfold law01_Fit_E at h
  split at h
  · cases h; exact ⟨(law01_pick_S_ok R _ (specNo_ok _)), fun h => nomatch h⟩
  · cases h

noncomputable def law01_Fit_3_0_B {R : Type} (rec' : Int → Int → Dcm → Option R) (x5 : Int) (x6 : Int) (x7 : Dcm) (e0 : Int → Int → Dcm → Option R) : Option R :=
  bif (x5 != 0) then (bif ((Int.tmod x5 10) == 0) then (rec' (IntKind.i64.wrap (Int.tdiv x5 10)) x6 x7) else (e0 x5 x6 x7)) else (e0 x5 x6 x7)
noncomputable def law01_Fit_3_0_L {R : Type} : law01_Fit_3_0_ty R
  | 0, _, _, _, _ => none
  | n + 1, x0', x1', x2', e0 => law01_Fit_3_0_B (fun x0' x1' x2' => law01_Fit_3_0_L n x0' x1' x2' e0) x0' x1' x2' e0
noncomputable def law01_Fit_3_0_h : Hint := { live := [4, 5, 6], own := [], rows := [], cells := [], drop := [], out := [4, 5, 6] }
abbrev law01_Fit_3_0_D : Type := Int × Int × Dcm
noncomputable def law01_Fit_3_0_enc : law01_Fit_3_0_D → St := fun d => ⟨[.undef, .undef, .undef, .undef, .ptr 0 0, .int .i64 d.1, .int .i64 d.2.1, .undef, .undef, .undef, .undef, .undef, .undef, .undef, .undef, .undef, .undef, .undef, .undef, .undef, .undef, .undef, .undef, .undef, .undef, .undef, .undef], [.cells [.int .i64 d.2.2.mant, .int .i64 d.2.2.exp]]⟩
noncomputable def law01_Fit_3_0_x0 {R : Type} (K : Ex → St → Option R) (q0 : Int) (q1 : Int) (q2 : Dcm) : Option R := K (.exit 0) ⟨[.undef, .undef, .undef, .undef, .ptr 0 0, .int .i64 q0, .int .i64 q1, .undef, .undef, .undef, .undef, .undef, .undef, .undef, .undef, .undef, .undef, .undef, .undef, .undef, .undef, .undef, .undef, .undef, .undef, .undef, .undef], [.cells [.int .i64 q2.mant, .int .i64 q2.exp]]⟩
noncomputable def law01_Fit_3_0_s {R : Type} (K : Ex → St → Option R) (rc : law01_Fit_3_0_D → Option R) (d : law01_Fit_3_0_D) : Option R := law01_Fit_3_0_B (fun z0 z1 z2 => rc (z0, z1, z2)) d.1 d.2.1 d.2.2 (law01_Fit_3_0_x0 K)
noncomputable def law01_Fit_3_0_A {R : Type} (K : Ex → St → Option R) (n : Nat) (d : law01_Fit_3_0_D) : Option R := law01_Fit_3_0_L n d.1 d.2.1 d.2.2 (law01_Fit_3_0_x0 K)
abbrev law01_Fit_3_0_p : List Pat := [.leaf (.undef), .leaf (.undef), .leaf (.undef), .leaf (.undef), .leaf (.ptr 0 0), .leaf (.int .i64), .leaf (.int .i64), .leaf (.undef), .leaf (.undef), .leaf (.undef), .leaf (.undef), .leaf (.undef), .leaf (.undef), .leaf (.undef), .leaf (.undef), .leaf (.undef), .leaf (.undef), .leaf (.undef), .leaf (.undef), .leaf (.undef), .leaf (.undef), .leaf (.undef), .leaf (.undef), .leaf (.undef), .leaf (.undef), .leaf (.undef), .leaf (.undef)]
abbrev law01_Fit_3_0_q : List HPat := [.cells [.int .i64, .int .i64]]
noncomputable def law01_Fit_3_0_f (x : Pat.dens law01_Fit_3_0_p) (y : HPat.dens law01_Fit_3_0_q) : Nat := (Int.natAbs x.2.2.2.2.2.1 + Int.natAbs x.2.2.2.2.2.2.1 + Dcm.fu (⟨y.1.1, y.1.2.1⟩ : Dcm) + 64)
noncomputable def law01_Fit_3_0_d (x : Pat.dens law01_Fit_3_0_p) (y : HPat.dens law01_Fit_3_0_q) : law01_Fit_3_0_D := (x.2.2.2.2.2.1, x.2.2.2.2.2.2.1, (⟨y.1.1, y.1.2.1⟩ : Dcm))
noncomputable def law01_Fit_3_0_rr {R : Type} (L : law01_Fit_3_0_ty R) : Pat.dens law01_Fit_3_0_p → HPat.dens law01_Fit_3_0_q → (Ex → St → Option R) → Option R := fun x y K => L (law01_Fit_3_0_f x y) x.2.2.2.2.2.1 x.2.2.2.2.2.2.1 (⟨y.1.1, y.1.2.1⟩ : Dcm) (law01_Fit_3_0_x0 K)
noncomputable def law01_Fit_T (R : Type) (law01_Fit_3_0_L : law01_Fit_3_0_ty R) : Nat → Option (Hint × LSpec R) := fun i => match i with
  | 3 => some (law01_Fit_3_0_h, (loopBy law01_Fit_3_0_p law01_Fit_3_0_q (law01_Fit_3_0_rr law01_Fit_3_0_L) loopNo))
  | _ => none

theorem law01_Fit_3_0_B_ok {R : Type} (law01_pick : law01_pick_ty R) (law01_Fit_3_0_L : law01_Fit_3_0_ty R) (K : Ex → St → Option R) (rc : St → Option R) (d : law01_Fit_3_0_D) : roundOf tt (law01_Fit_E R law01_pick) (law01_Fit_T R law01_Fit_3_0_L) 0 ((loopsOf (codeOf Tryz.f28)).getD 0 .skip) law01_Fit_3_0_h (law01_Fit_3_0_enc d) rc K = law01_Fit_3_0_s K (fun d => rc (law01_Fit_3_0_enc d)) d := by kernel_rfl
theorem law01_Fit_3_0_A_succ {R : Type} (K : Ex → St → Option R) (n : Nat) (d : law01_Fit_3_0_D) : law01_Fit_3_0_A K (n + 1) d = law01_Fit_3_0_s K (law01_Fit_3_0_A K n) d := by kernel_rfl
theorem law01_Fit_3_0_A_zero {R : Type} (K : Ex → St → Option R) (d : law01_Fit_3_0_D) : law01_Fit_3_0_A K 0 d = none := by kernel_rfl
theorem law01_Fit_3_0_e_ok (x : Pat.dens law01_Fit_3_0_p) (y : HPat.dens law01_Fit_3_0_q) : (⟨Pat.encL law01_Fit_3_0_p x, HPat.encL law01_Fit_3_0_q y⟩ : St) = law01_Fit_3_0_enc (law01_Fit_3_0_d x y) := by kernel_rfl
theorem law01_Fit_3_0_r_ok {R : Type} (x : Pat.dens law01_Fit_3_0_p) (y : HPat.dens law01_Fit_3_0_q) (K : Ex → St → Option R) : law01_Fit_3_0_rr (law01_Fit_3_0_L) x y K = law01_Fit_3_0_A K (law01_Fit_3_0_f x y) (law01_Fit_3_0_d x y) := by kernel_rfl
theorem law01_Fit_3_0_ok {R : Type} (other : LSpec R) (ho : LsOk tt (law01_Fit_E R law01_pick) (law01_Fit_T R law01_Fit_3_0_L) 0 ((loopsOf (codeOf Tryz.f28)).getD 0 .skip) law01_Fit_3_0_h other) : LsOk tt (law01_Fit_E R law01_pick) (law01_Fit_T R law01_Fit_3_0_L) 0 ((loopsOf (codeOf Tryz.f28)).getD 0 .skip) law01_Fit_3_0_h (loopBy law01_Fit_3_0_p law01_Fit_3_0_q (law01_Fit_3_0_rr (law01_Fit_3_0_L)) other) :=
  loopBy_tie (A := law01_Fit_3_0_A) ho (loop_tie law01_Fit_3_0_enc (law01_Fit_3_0_s) (law01_Fit_3_0_A) (law01_Fit_3_0_A_zero) (law01_Fit_3_0_B_ok law01_pick law01_Fit_3_0_L) (law01_Fit_3_0_A_succ)) law01_Fit_3_0_f law01_Fit_3_0_d law01_Fit_3_0_e_ok (law01_Fit_3_0_r_ok)

noncomputable def law01_Fit_X {R : Type} (law01_pick : law01_pick_ty R) (law01_Fit_3_0_L : law01_Fit_3_0_ty R) (x1 : Int) (x2 : Int) (k0 : Dcm → Option R) : Option R :=
  law01_pick x1 2000000000000001 (fun y3 => law01_pick x2 19 (fun y4 => law01_Fit_3_0_L (Int.natAbs (IntKind.i64.wrap (y3 - 1000000000000000)) + Int.natAbs (IntKind.i64.wrap (y4 - 9)) + Dcm.fu (⟨0, 0⟩ : Dcm) + 64) (IntKind.i64.wrap (y3 - 1000000000000000)) (IntKind.i64.wrap (y4 - 9)) (⟨0, 0⟩ : Dcm) (fun y9 y10 y11 => bif (y9 == 0) then (k0 (⟨y9, 0⟩ : Dcm)) else (k0 (⟨y9, y10⟩ : Dcm)))))
noncomputable def law01_Fit {R : Type} : law01_Fit_ty R := fun x1 x2 k0 => law01_Fit_X law01_pick law01_Fit_3_0_L x1 x2 k0
theorem law01_Fit_ok {R : Type} (law01_pick : law01_pick_ty R) (law01_Fit_3_0_L : law01_Fit_3_0_ty R) (x1 : Int) (x2 : Int) (k : V → Heap → Option R) : funK tt (law01_Fit_E R law01_pick) (law01_Fit_T R law01_Fit_3_0_L) false Tryz.f28 (codeOf Tryz.f28) [.int .i64 x1, .int .i64 x2] [] k =
    law01_Fit_X law01_pick law01_Fit_3_0_L x1 x2 (fun q0 => k (.agg [.int .i64 q0.mant, .int .i64 q0.exp]) []) := by kernel_rfl
theorem law01_Fit_loops (R : Type) : ∀ a ∈ loopsOf (codeOf Tryz.f28), LoopOk tt (law01_Fit_E R law01_pick) (law01_Fit_T R law01_Fit_3_0_L) 0 a := by
  refine loops_ok 1 (by kernel_rfl) fun i hi => ?_
  match i, hi with
  | 0, _ => exact loopOk_some (by kernel_rfl) (law01_Fit_3_0_ok _ loopNo_ok)
  | n + 1, hi => omega
theorem law01_Fit_S_ok (R : Type) (other : Yard.Spec R) (ho : Yard.Spec.Ok Tryz.prog 28 other) : Yard.Spec.Ok Tryz.prog 28 (specBy law01_Fit_p law01_Fit_q (law01_Fit_rr law01_Fit) other) :=
  specBy_ok ho (funK_sound TT mixed (law01_Fit_EOk R) (keep := false) rfl rfl rfl rfl 0 (law01_Fit_loops R)) fun (x : Pat.dens law01_Fit_p) (y : HPat.dens law01_Fit_q) k => law01_Fit_ok law01_pick law01_Fit_3_0_L x.1 x.2.1 k

/-! ### humpyard/decimal.Right -/
abbrev decimal_Right_ty (R : Type) : Type := Dcm → (Bool → Option R) → Option R
abbrev decimal_Right_p : List Pat := [.agg [.int .i64, .int .i64]]
abbrev decimal_Right_q : List HPat := []
noncomputable def decimal_Right_rr {R : Type} (fn : decimal_Right_ty R) : Pat.dens decimal_Right_p → HPat.dens decimal_Right_q → (V → Heap → Option R) → Option R := fun x y k => fn (⟨x.1.1, x.1.2.1⟩ : Dcm) (fun q0 => k (.bool q0) [])
noncomputable def decimal_Right_E (R : Type) (decimal_within_int : decimal_within_int_ty R) : Env R := fun i => match i with
  | 91 => some (true, (specBy decimal_within_int_p decimal_within_int_q (decimal_within_int_rr decimal_within_int) specNo))
  | _ => none
theorem decimal_Right_EOk (R : Type) : EOk Tryz.prog (decimal_Right_E R decimal_within_int) := by
  intro i b sp h
  unfold decimal_Right_E at h
  split at h
  · cases h; exact ⟨(decimal_within_int_S_ok R _ (specNo_ok _)), fun h => nomatch h⟩
  · cases h

noncomputable def decimal_Right_T (R : Type) : Nat → Option (Hint × LSpec R) := fun i => match i with
  | _ => none

noncomputable def decimal_Right_X {R : Type} (decimal_within_int : decimal_within_int_ty R) (x1 : Dcm) (k0 : Bool → Option R) : Option R :=
  bif (x1.mant == 0) then (k0 (x1.exp == 0)) else (bif ((Int.tmod x1.mant 10) != 0) then (decimal_within_int (-1000000000000000) x1.mant 1000000000000000 (fun y2 => bif y2 then (decimal_within_int (-9) x1.exp 9 (fun y3 => k0 y3)) else (k0 false))) else (k0 false))
noncomputable def decimal_Right {R : Type} : decimal_Right_ty R := fun x1 k0 => decimal_Right_X decimal_within_int x1 k0
theorem decimal_Right_ok {R : Type} (decimal_within_int : decimal_within_int_ty R) (x1 : Dcm) (k : V → Heap → Option R) : funK tt (decimal_Right_E R decimal_within_int) (decimal_Right_T R) false Tryz.f65 (codeOf Tryz.f65) [.agg [.int .i64 x1.mant, .int .i64 x1.exp]] [] k =
    decimal_Right_X decimal_within_int x1 (fun q0 => k (.bool q0) []) := by kernel_rfl
theorem decimal_Right_loops (R : Type) : ∀ a ∈ loopsOf (codeOf Tryz.f65), LoopOk tt (decimal_Right_E R decimal_within_int) (decimal_Right_T R) 0 a := by
  refine loops_ok 0 (by kernel_rfl) fun i hi => ?_
  omega
theorem decimal_Right_S_ok (R : Type) (other : Yard.Spec R) (ho : Yard.Spec.Ok Tryz.prog 65 other) : Yard.Spec.Ok Tryz.prog 65 (specBy decimal_Right_p decimal_Right_q (decimal_Right_rr decimal_Right) other) :=
  specBy_ok ho (funK_sound TT mixed (decimal_Right_EOk R) (keep := false) rfl rfl rfl rfl 0 (decimal_Right_loops R)) fun (x : Pat.dens decimal_Right_p) (y : HPat.dens decimal_Right_q) k => decimal_Right_ok decimal_within_int (⟨x.1.1, x.1.2.1⟩ : Dcm) k

/-! ### (*strings.Builder).WriteString -/
abbrev strings_Builder_WriteString_fb8e_ty (R : Type) : Type := Str → (Int → (List Int) → Option R) → Option R
abbrev strings_Builder_WriteString_fb8e_p : List Pat := [.leaf (.ptr 0 0), .leaf (.str)]
abbrev strings_Builder_WriteString_fb8e_q : List HPat := [.bld (.nilsl)]
noncomputable def strings_Builder_WriteString_fb8e_rr {R : Type} (fn : strings_Builder_WriteString_fb8e_ty R) : Pat.dens strings_Builder_WriteString_fb8e_p → HPat.dens strings_Builder_WriteString_fb8e_q → (V → Heap → Option R) → Option R := fun x y k => fn x.2.1 (fun q0 q1 => k (.tuple [.int .i64 q0, .niliface]) [.bld (.sl (.int .u8) q1 (.own 1)), .tok])
noncomputable def strings_Builder_WriteString_fb8e_E (R : Type) : Env R := fun i => match i with
  | 73 => some (false, (bcc_S R))
  | _ => none
theorem strings_Builder_WriteString_fb8e_EOk (R : Type) : EOk Tryz.prog (strings_Builder_WriteString_fb8e_E R) := by
  intro i b sp h
  unfold strings_Builder_WriteString_fb8e_E at h
  split at h
  · cases h; exact ⟨(bcc_is), fun _ h => nomatch h⟩
  · cases h

noncomputable def strings_Builder_WriteString_fb8e_T (R : Type) : Nat → Option (Hint × LSpec R) := fun i => match i with
  | _ => none

noncomputable def strings_Builder_WriteString_fb8e_X {R : Type} (x1 : Str) (k0 : Int → (List Int) → Option R) : Option R :=
  chk (decide ((0 + (bytesN x1).length) * 1 ≤ 140737488355328)) (k0 (x1.length : Int) (bytesN x1))
noncomputable def strings_Builder_WriteString_fb8e {R : Type} : strings_Builder_WriteString_fb8e_ty R := fun x1 k0 => strings_Builder_WriteString_fb8e_X x1 k0
theorem strings_Builder_WriteString_fb8e_ok {R : Type} (x1 : Str) (k : V → Heap → Option R) : funK tt (strings_Builder_WriteString_fb8e_E R) (strings_Builder_WriteString_fb8e_T R) false Tryz.f52 (codeOf Tryz.f52) [.ptr 0 0, .str x1] [.bld (.nilsl)] k =
    strings_Builder_WriteString_fb8e_X x1 (fun q0 q1 => k (.tuple [.int .i64 q0, .niliface]) [.bld (.sl (.int .u8) q1 (.own 1)), .tok]) := by kernel_rfl
theorem strings_Builder_WriteString_fb8e_loops (R : Type) : ∀ a ∈ loopsOf (codeOf Tryz.f52), LoopOk tt (strings_Builder_WriteString_fb8e_E R) (strings_Builder_WriteString_fb8e_T R) 1 a := by
  refine loops_ok 0 (by kernel_rfl) fun i hi => ?_
  omega
theorem strings_Builder_WriteString_fb8e_S_ok (R : Type) (other : Yard.Spec R) (ho : Yard.Spec.Ok Tryz.prog 52 other) : Yard.Spec.Ok Tryz.prog 52 (specBy strings_Builder_WriteString_fb8e_p strings_Builder_WriteString_fb8e_q (strings_Builder_WriteString_fb8e_rr strings_Builder_WriteString_fb8e) other) :=
  specBy_ok ho (funK_sound TT mixed (strings_Builder_WriteString_fb8e_EOk R) (keep := false) rfl rfl rfl rfl 1 (strings_Builder_WriteString_fb8e_loops R)) fun (x : Pat.dens strings_Builder_WriteString_fb8e_p) (y : HPat.dens strings_Builder_WriteString_fb8e_q) k => strings_Builder_WriteString_fb8e_ok x.2.1 k

end Go.Proofs.YtmlkkgfenfdndaaGreatDoor

set_option linter.unusedVariables false
set_option maxRecDepth 100000
namespace Go.Proofs.YtmlkkgfenfdndaaGreatDoor
open Go Go.Yard

theorem pick01 {R : Type} (c n : Int) (hc : I64 c) (h0 : 0 < n) (hn : n ≤ 9223372036854775807) : ∃ r : Int, 0 ≤ r ∧ r < n ∧ ∀ k : Int → Option R, law01_pick c n k = k r := pick_raw c n hc h0 hn

theorem strip_ex : ∀ (b : Nat) (m : Int), m ≠ 0 → m.natAbs < b → ∃ (j : Nat) (u : Int), m = u * 10 ^ j ∧ Int.tmod u 10 ≠ 0
  | 0, m, _, h => by omega
  | b + 1, m, h0, hb => by
    by_cases h : Int.tmod m 10 = 0
    · have hd : m = Int.tdiv m 10 * 10 := by have := Int.tmod_add_mul_tdiv m 10; omega
      have hn : (Int.tdiv m 10).natAbs < m.natAbs := by rw [Int.natAbs_tdiv]; show m.natAbs / 10 < m.natAbs; omega
      obtain ⟨j, u, e, hu⟩ := strip_ex b (Int.tdiv m 10) (by omega) (by omega)
      refine ⟨j + 1, u, ?_, hu⟩
      rw [Int.pow_succ, ← Int.mul_assoc, ← e]
      exact hd
    · exact ⟨0, m, by simp, h⟩

theorem strip_one : ∀ (i j : Nat) (u v : Int), Int.tmod u 10 ≠ 0 → Int.tmod v 10 ≠ 0 → u * 10 ^ i = v * 10 ^ j → i = j ∧ u = v
  | 0, 0, u, v, _, _, h => ⟨rfl, by simpa using h⟩
  | 0, j + 1, u, v, hu, _, h => by
    exfalso
    apply hu
    have : u = (v * 10 ^ j) * 10 := by rw [Int.pow_succ, ← Int.mul_assoc] at h; simpa using h
    rw [this]
    exact Int.mul_tmod_left _ _
  | i + 1, 0, u, v, _, hv, h => by
    exfalso
    apply hv
    have : v = (u * 10 ^ i) * 10 := by rw [Int.pow_succ, ← Int.mul_assoc] at h; simpa using h.symm
    rw [this]
    exact Int.mul_tmod_left _ _
  | i + 1, j + 1, u, v, hu, hv, h => by
    have h2 : u * 10 ^ i = v * 10 ^ j := by
      rw [Int.pow_succ, Int.pow_succ, ← Int.mul_assoc, ← Int.mul_assoc] at h
      omega
    obtain ⟨h3, h4⟩ := strip_one i j u v hu hv h2
    exact ⟨by omega, h4⟩

theorem pow_pos10 (j : Nat) : (1 : Int) ≤ 10 ^ j := by
  induction j with
  | zero => simp
  | succ j ih => rw [Int.pow_succ]; omega

theorem abs_le_mul (u : Int) (j : Nat) : u.natAbs ≤ (u * 10 ^ j).natAbs := by
  rw [Int.natAbs_mul]
  have h := pow_pos10 j
  have : 1 ≤ ((10 : Int) ^ j).natAbs := by omega
  exact Nat.le_mul_of_pos_right _ this

theorem noughts_le (u : Int) (hu : u ≠ 0) : ∀ j : Nat, j ≤ (u * 10 ^ j).natAbs := by
  intro j
  rw [Int.natAbs_mul]
  have h1 : 1 ≤ u.natAbs := by omega
  have h2 : j ≤ ((10 : Int) ^ j).natAbs := by
    induction j with
    | zero => simp
    | succ j ih =>
      have := pow_pos10 j
      rw [Int.pow_succ, Int.natAbs_mul]
      show j + 1 ≤ ((10 : Int) ^ j).natAbs * 10
      omega
  calc j ≤ ((10 : Int) ^ j).natAbs := h2
    _ ≤ u.natAbs * ((10 : Int) ^ j).natAbs := Nat.le_mul_of_pos_left _ h1

theorem noughts_pow (u : Int) (hu : u ≠ 0) (j : Nat) : 2 ^ j ≤ (u * 10 ^ j).natAbs := by
  rw [Int.natAbs_mul]
  have h2 : ∀ j : Nat, 2 ^ j ≤ ((10 : Int) ^ j).natAbs := by
    intro j
    induction j with
    | zero => simp
    | succ j ih =>
      rw [Int.pow_succ, Int.natAbs_mul, Nat.pow_succ]
      show 2 ^ j * 2 ≤ ((10 : Int) ^ j).natAbs * 10
      omega
  exact Nat.le_trans (h2 j) (Nat.le_mul_of_pos_left _ (by omega))

theorem noughts_64 {u : Int} (hu : u ≠ 0) {j : Nat} (hb : I64 (u * 10 ^ j)) : j < 64 := by
  have h := noughts_pow u hu j
  unfold I64 at hb
  rcases Nat.lt_or_ge j 64 with h1 | h1
  · exact h1
  · have h2 : (2 : Nat) ^ 64 ≤ 2 ^ j := Nat.pow_le_pow_right (by omega) h1
    have h3 : (2 : Nat) ^ 64 = 18446744073709551616 := rfl
    omega

theorem make_loop {R : Type} (d : Dcm) (e0 : Int → Int → Dcm → Option R) : ∀ (j n : Nat) (u x : Int), j < n → Int.tmod u 10 ≠ 0 → I64 (u * 10 ^ j) → -9223372036854775808 ≤ x → x + j ≤ 4000000000000000000 →
    decimal_Make_4_0_L n (u * 10 ^ j) x d e0 = e0 u (x + j) d := by
  intro j
  induction j with
  | zero =>
    intro n u x hn hu hb h1 h2
    obtain ⟨m, rfl⟩ : ∃ m, n = m + 1 := ⟨n - 1, by omega⟩
    have e : decimal_Make_4_0_L (m + 1) (u * 10 ^ 0) x d e0 = decimal_Make_4_0_B (fun x0' x1' x2' => decimal_Make_4_0_L m x0' x1' x2' e0) (u * 10 ^ 0) x d e0 := rfl
    rw [e]
    unfold decimal_Make_4_0_B
    have e1 : u * 10 ^ 0 = u := by simp
    have e2 : (Int.tmod u 10 == 0) = false := by rw [beq_eq_false_iff_ne]; exact hu
    rw [e1, e2, cond_false]
    simp
  | succ j ih =>
    intro n u x hn hu hb h1 h2
    obtain ⟨m, rfl⟩ : ∃ m, n = m + 1 := ⟨n - 1, by omega⟩
    have e : decimal_Make_4_0_L (m + 1) (u * 10 ^ (j + 1)) x d e0 = decimal_Make_4_0_B (fun x0' x1' x2' => decimal_Make_4_0_L m x0' x1' x2' e0) (u * 10 ^ (j + 1)) x d e0 := rfl
    rw [e]
    unfold decimal_Make_4_0_B
    have ep : u * 10 ^ (j + 1) = u * 10 ^ j * 10 := by rw [Int.pow_succ, Int.mul_assoc]
    unfold I64 at hb
    rw [ep] at hb ⊢
    have e1 : (Int.tmod (u * 10 ^ j * 10) 10 == 0) = true := by rw [Int.mul_tmod_left]; rfl
    have e2 : Int.tdiv (u * 10 ^ j * 10) 10 = u * 10 ^ j := Int.mul_tdiv_cancel _ (by omega)
    rw [e1, cond_true, e2, wrap_id (n := u * 10 ^ j) (by omega) (by omega), wrap_id (n := x + 1) (by omega) (by omega)]
    show decimal_Make_4_0_L m (u * 10 ^ j) (x + 1) d e0 = _
    rw [ih m u (x + 1) (by omega) hu (by unfold I64; omega) (by omega) (by omega)]
    have : x + 1 + (j : Int) = x + ((j + 1 : Nat) : Int) := by omega
    rw [this]

theorem within_ok {R : Type} (a b c : Int) (k : Bool → Option R) : decimal_within_int a b c k = k (decide (a ≤ b) && decide (b ≤ c)) := by
  have e : decimal_within_int a b c k = decimal_within_int_X a b c k := rfl
  rw [e]
  unfold decimal_within_int_X
  by_cases h1 : a ≤ b
  · rw [dtrue h1]; first | rfl | simp
  · rw [dfalse h1]; first | rfl | simp

def mkD (u x : Int) : Dcm × Bool := if -1000000000000000 ≤ u ∧ u ≤ 1000000000000000 ∧ -9 ≤ x ∧ x ≤ 9 then (⟨u, x⟩, true) else (⟨0, 0⟩, false)

theorem make_ok {R : Type} (u : Int) (j : Nat) (x : Int) (hu : Int.tmod u 10 ≠ 0) (hb : I64 (u * 10 ^ j)) (h1 : -9223372036854775808 ≤ x) (h2 : x ≤ 1000000) (k : Dcm → Bool → Option R) :
    decimal_Make (u * 10 ^ j) x k = k (mkD u (x + j)).1 (mkD u (x + j)).2 := by
  have e : decimal_Make (u * 10 ^ j) x k = decimal_Make_X decimal_within_int decimal_Make_4_0_L (u * 10 ^ j) x k := rfl
  rw [e]
  unfold decimal_Make_X
  have hu0 : u ≠ 0 := by rintro rfl; exact hu rfl
  have ha := abs_le_mul u j
  have hn := noughts_le u hu0 j
  have h64 := noughts_64 hu0 hb
  have h0 : (u * 10 ^ j == 0) = false := by rw [beq_eq_false_iff_ne]; omega
  have hm : min x 1000000 = x := Int.min_eq_left h2
  unfold I64 at hb
  rw [h0, cond_false, hm, make_loop _ _ j _ u x (by omega) hu (by unfold I64; exact hb) h1 (by omega)]
  rw [within_ok]
  unfold mkD
  by_cases c1 : -1000000000000000 ≤ u ∧ u ≤ 1000000000000000
  · rw [dtrue c1.1, dtrue c1.2]
    simp only [Bool.and_self, Bool.not_true, cond_false]
    rw [within_ok]
    by_cases c2 : -9 ≤ x + (j : Int) ∧ x + (j : Int) ≤ 9
    · rw [dtrue c2.1, dtrue c2.2, if_pos ⟨c1.1, c1.2, c2.1, c2.2⟩]
      rfl
    · rw [if_neg (fun h => c2 h.2.2)]
      have : (decide (-9 ≤ x + (j : Int)) && decide (x + (j : Int) ≤ 9)) = false := by
        rw [Bool.and_eq_false_iff, decide_eq_false_iff_not, decide_eq_false_iff_not]; omega
      rw [this]
      rfl
  · rw [if_neg (fun h => c1 ⟨h.1, h.2.1⟩)]
    have : (decide (-1000000000000000 ≤ u) && decide (u ≤ 1000000000000000)) = false := by
      rw [Bool.and_eq_false_iff, decide_eq_false_iff_not, decide_eq_false_iff_not]; omega
    rw [this]
    rfl

theorem make_zero {R : Type} (x : Int) (k : Dcm → Bool → Option R) : decimal_Make 0 x k = k ⟨0, 0⟩ true := by
  have e : decimal_Make 0 x k = decimal_Make_X decimal_within_int decimal_Make_4_0_L 0 x k := rfl
  rw [e]
  rfl

theorem right_mk {R : Type} {u x : Int} (hu : Int.tmod u 10 ≠ 0) (h : -1000000000000000 ≤ u ∧ u ≤ 1000000000000000 ∧ -9 ≤ x ∧ x ≤ 9) (k : Bool → Option R) : decimal_Right ⟨u, x⟩ k = k true := by
  have e : decimal_Right ⟨u, x⟩ k = decimal_Right_X decimal_within_int ⟨u, x⟩ k := rfl
  rw [e]
  unfold decimal_Right_X
  have hu0 : u ≠ 0 := by rintro rfl; exact hu rfl
  have e1 : (u == 0) = false := by rw [beq_eq_false_iff_ne]; exact hu0
  have e2 : (Int.tmod u 10 != 0) = true := bne_iff_ne.2 hu
  simp only [e1, e2, cond_false, cond_true, within_ok]
  rw [dtrue h.1, dtrue h.2.1, dtrue h.2.2.1, dtrue h.2.2.2]
  rfl

end Go.Proofs.YtmlkkgfenfdndaaGreatDoor

set_option linter.unusedVariables false
set_option maxRecDepth 100000
namespace Go.Proofs.YtmlkkgfenfdndaaGreatDoor
open Go Go.Yard Go.Lib

def Fm (d : Dcm) : Prop := (d.mant = 0 ∧ d.exp = 0) ∨ (Int.tmod d.mant 10 ≠ 0 ∧ -1000000000000000 ≤ d.mant ∧ d.mant ≤ 1000000000000000 ∧ -9 ≤ d.exp ∧ d.exp ≤ 9)

theorem Fm.bounds {d : Dcm} (h : Fm d) : -1000000000000000 ≤ d.mant ∧ d.mant ≤ 1000000000000000 ∧ -9 ≤ d.exp ∧ d.exp ≤ 9 := by
  rcases h with h | h <;> omega
theorem Fm.nz {d : Dcm} (h : Fm d) (h0 : d.mant ≠ 0) : Int.tmod d.mant 10 ≠ 0 := by
  rcases h with h | h
  · exact (h0 h.1).elim
  · exact h.1
theorem Fm.zero {d : Dcm} (h : Fm d) (h0 : d.mant = 0) : d = ⟨0, 0⟩ := by
  rcases h with h | h
  · cases d; simp only at h; rw [h.1, h.2]
  · exact (h.1 (by rw [h0]; rfl)).elim
theorem Fm.mk0 : Fm ⟨0, 0⟩ := .inl ⟨rfl, rfl⟩
theorem tmod_neg {m : Int} (h : Int.tmod m 10 ≠ 0) : Int.tmod (-m) 10 ≠ 0 := by rw [Int.neg_tmod]; omega
theorem Fm.neg {d : Dcm} (h : Fm d) : Fm ⟨-d.mant, d.exp⟩ := by
  rcases h with h | h
  · exact .inl ⟨by simp only; omega, h.2⟩
  · exact .inr ⟨tmod_neg h.1, by simp only; omega, by simp only; omega, h.2.2.2⟩

theorem right_ok {R : Type} {d : Dcm} (h : Fm d) (k : Bool → Option R) : decimal_Right d k = k true := by
  rcases h with h | h
  · have e : decimal_Right d k = decimal_Right_X decimal_within_int d k := rfl
    rw [e]
    unfold decimal_Right_X
    rw [h.1, h.2]
    rfl
  · cases d; exact right_mk h.1 h.2 k

theorem fit_loop {R : Type} (x : Int) (d : Dcm) (e0 : Int → Int → Dcm → Option R) : ∀ (j n : Nat) (u : Int), j < n → Int.tmod u 10 ≠ 0 → I64 (u * 10 ^ j) →
    law01_Fit_3_0_L n (u * 10 ^ j) x d e0 = e0 u x d := by
  intro j
  induction j with
  | zero =>
    intro n u hn hu hb
    obtain ⟨m, rfl⟩ : ∃ m, n = m + 1 := ⟨n - 1, by omega⟩
    have e : law01_Fit_3_0_L (m + 1) (u * 10 ^ 0) x d e0 = law01_Fit_3_0_B (fun x0' x1' x2' => law01_Fit_3_0_L m x0' x1' x2' e0) (u * 10 ^ 0) x d e0 := rfl
    rw [e]
    unfold law01_Fit_3_0_B
    have e1 : u * 10 ^ 0 = u := by simp
    have e2 : (Int.tmod u 10 == 0) = false := by rw [beq_eq_false_iff_ne]; exact hu
    have e3 : (u != 0) = true := bne_iff_ne.2 (by rintro rfl; exact hu rfl)
    rw [e1, e3, cond_true, e2, cond_false]
  | succ j ih =>
    intro n u hn hu hb
    obtain ⟨m, rfl⟩ : ∃ m, n = m + 1 := ⟨n - 1, by omega⟩
    have e : law01_Fit_3_0_L (m + 1) (u * 10 ^ (j + 1)) x d e0 = law01_Fit_3_0_B (fun x0' x1' x2' => law01_Fit_3_0_L m x0' x1' x2' e0) (u * 10 ^ (j + 1)) x d e0 := rfl
    rw [e]
    unfold law01_Fit_3_0_B
    have ep : u * 10 ^ (j + 1) = u * 10 ^ j * 10 := by rw [Int.pow_succ, Int.mul_assoc]
    have hu0 : u ≠ 0 := by rintro rfl; exact hu rfl
    have hab := abs_le_mul u (j + 1)
    have e3 : (u * 10 ^ (j + 1) != 0) = true := bne_iff_ne.2 (by omega)
    unfold I64 at hb
    rw [e3, cond_true]
    rw [ep] at hb ⊢
    have e1 : (Int.tmod (u * 10 ^ j * 10) 10 == 0) = true := by rw [Int.mul_tmod_left]; rfl
    have e2 : Int.tdiv (u * 10 ^ j * 10) 10 = u * 10 ^ j := Int.mul_tdiv_cancel _ (by omega)
    rw [e1, cond_true, e2, wrap_id (n := u * 10 ^ j) (by omega) (by omega)]
    exact ih m u (by omega) hu (by unfold I64; omega)

theorem fit_ok {R : Type} (a b : Int) (ha : I64 a) (hb : I64 b) : ∃ d : Dcm, Fm d ∧ ∀ k : Dcm → Option R, law01_Fit a b k = k d := by
  obtain ⟨m, m0, m1, hm⟩ := pick01 (R := R) a 2000000000000001 ha (by omega) (by omega)
  obtain ⟨x, x0, x1, hx⟩ := pick01 (R := R) b 19 hb (by omega) (by omega)
  have e : ∀ k : Dcm → Option R, law01_Fit a b k = law01_Fit_X law01_pick law01_Fit_3_0_L a b k := fun _ => rfl
  by_cases h0 : m - 1000000000000000 = 0
  · refine ⟨⟨0, 0⟩, .mk0, fun k => ?_⟩
    rw [e]
    unfold law01_Fit_X
    rw [hm, hx, wrap_id (n := m - 1000000000000000) (by omega) (by omega), h0]
    rfl
  · obtain ⟨j, u, hu, hd⟩ := strip_ex ((m - 1000000000000000).natAbs + 1) _ h0 (by omega)
    have hab := abs_le_mul u j
    have hb64 : I64 (u * 10 ^ j) := by unfold I64; omega
    have h64 := noughts_64 (by rintro rfl; exact hd rfl) hb64
    refine ⟨⟨u, x - 9⟩, .inr ⟨hd, by simp only; omega, by simp only; omega, by simp only; omega, by simp only; omega⟩, fun k => ?_⟩
    rw [e]
    unfold law01_Fit_X
    rw [hm, hx, wrap_id (n := m - 1000000000000000) (by omega) (by omega), wrap_id (n := x - 9) (by omega) (by omega)]
    have key := fun (F : Nat) (hF : j < F) => fit_loop (R := R) (x - 9) ⟨0, 0⟩ (fun y9 y10 y11 => bif (y9 == 0) then (k (⟨y9, 0⟩ : Dcm)) else (k (⟨y9, y10⟩ : Dcm))) j F u hF hd hb64
    rw [← hu] at key
    rw [key _ (by omega)]
    have e0 : (u == 0) = false := by rw [beq_eq_false_iff_ne]; rintro rfl; exact hd rfl
    rw [e0]
    rfl

end Go.Proofs.YtmlkkgfenfdndaaGreatDoor


set_option linter.unusedVariables false
set_option maxRecDepth 100000
namespace Go.Proofs.YtmlkkgfenfdndaaGreatDoor
open Go Go.Yard Go.Lib

def Made (m x : Int) (r : Dcm × Bool) : Prop := (m = 0 ∧ r = (⟨0, 0⟩, true)) ∨ ∃ (u : Int) (j : Nat), m = u * 10 ^ j ∧ Int.tmod u 10 ≠ 0 ∧ r = mkD u (x + j)

theorem make_any {R : Type} (m x : Int) (hm : I64 m) (h1 : -4000000000000000000 ≤ x) (h2 : x ≤ 1000000) : ∃ r : Dcm × Bool, Made m x r ∧ ∀ k : Dcm → Bool → Option R, decimal_Make m x k = k r.1 r.2 := by
  by_cases h0 : m = 0
  · subst h0
    exact ⟨_, .inl ⟨rfl, rfl⟩, fun k => make_zero x k⟩
  · obtain ⟨j, u, hu, hd⟩ := strip_ex (m.natAbs + 1) m h0 (by omega)
    exact ⟨_, .inr ⟨u, j, hu, hd, rfl⟩, fun k => by subst hu; exact make_ok u j x hd hm (by omega) h2 k⟩

def val (d : Dcm) : Int := d.mant * 10 ^ (d.exp + 9).toNat

theorem nDigits_low (u : Nat) (h : 0 < u) : 10 ^ (nDigits u - 1) ≤ u := by
  induction u using Nat.strongRecOn with
  | _ u ih =>
    by_cases h1 : u < 10
    · rw [nDigits_small h1]; exact h
    · rw [nDigits_big h1, Nat.add_sub_cancel]
      have h2 := ih (u / 10) (by omega) (by omega)
      have h3 := nDigits_pos (u / 10)
      have e : nDigits (u / 10) = (nDigits (u / 10) - 1) + 1 := by omega
      rw [e, Nat.pow_succ]
      omega

theorem digits16 {u : Nat} (h : u ≤ 1000000000000000) : nDigits u ≤ 16 := by
  rcases Nat.eq_zero_or_pos u with rfl | h0
  · rw [nDigits_small (by omega)]; omega
  · have h1 := nDigits_low u h0
    rcases Nat.lt_or_ge (nDigits u) 17 with h2 | h2
    · omega
    · have h3 : (10 : Nat) ^ 16 ≤ 10 ^ (nDigits u - 1) := Nat.pow_le_pow_right (by omega) (by omega)
      have e : (10 : Nat) ^ 16 = 10000000000000000 := rfl
      omega

theorem made_same {d : Dcm} (h : Fm d) (h0 : d.mant ≠ 0) {j : Nat} {x : Int} (hx : x + j = d.exp) {r : Dcm × Bool} (hr : Made (d.mant * 10 ^ j) x r) : r = (d, true) := by
  have hz := h.nz h0
  have hab := abs_le_mul d.mant j
  rcases hr with ⟨h1, _⟩ | ⟨u, i, e, hu, rfl⟩
  · omega
  · obtain ⟨rfl, rfl⟩ := strip_one i j u d.mant hu hz e.symm
    have b := h.bounds
    unfold mkD
    rw [if_pos (by omega), hx]

end Go.Proofs.YtmlkkgfenfdndaaGreatDoor

set_option linter.unusedVariables false
set_option maxRecDepth 100000
namespace Go.Proofs.YtmlkkgfenfdndaaGreatDoor
open Go Go.Yard

abbrev zs (s : Str) : List Int := s.map fun b => (b.toNat : Int)
theorem zs_app (s t : Str) : zs (s ++ t) = zs s ++ zs t := List.map_append
theorem zs_bytesN (s : Str) : bytesN s = zs s := rfl
theorem zs_len (s : Str) : (zs s).length = s.length := List.length_map _
theorem bstr_zs (s : Str) : bstr (zs s) = s := by
  unfold bstr zs
  rw [List.map_map]
  conv => rhs; rw [← List.map_id s]
  exact List.map_congr_left fun b _ => by simp
theorem zs_nat (n : Nat) (h : n < 256) : ((UInt8.ofNat n).toNat : Int) = n := by rw [u8_nat n h]

def Lim (s : Str) : Prop := s.length ≤ 100000000000

theorem wb {R : Type} (b : UInt8) (s : Str) (hl : Lim s) (k : List Int → Option R) : strings_Builder_WriteByte_4b84 (b.toNat : Int) (zs s) k = k (zs (s ++ [b])) := by
  show chk (decide (((zs s).length + 1) * 1 ≤ 140737488355328)) (k (zs s ++ [(b.toNat : Int)])) = _
  unfold Lim at hl
  rw [chk_pos (dtrue (by rw [zs_len]; omega)), zs_app]
  rfl

theorem ws {R : Type} (x : Str) (s : Str) (hx : x.length ≤ 100000000000) (hl : Lim s) (k : Int → List Int → Option R) : strings_Builder_WriteString_df1e x (zs s) k = k (x.length : Int) (zs (s ++ x)) := by
  show chk (decide (((zs s).length + (bytesN x).length) * 1 ≤ 140737488355328)) (k (x.length : Int) (zs s ++ bytesN x)) = _
  unfold Lim at hl
  rw [zs_bytesN, chk_pos (dtrue (by rw [zs_len, zs_len]; omega)), zs_app]

theorem or128 : ∀ x : Fin 64, IntKind.u8.wrap ((BitVec.ofInt IntKind.u8.bits 128 ||| BitVec.ofInt IntKind.u8.bits (x.val : Int)).toNat : Int) = ((128 + x.val : Nat) : Int) := by decide +kernel
theorem or192 : ∀ x : Fin 32, IntKind.u8.wrap ((BitVec.ofInt IntKind.u8.bits 192 ||| BitVec.ofInt IntKind.u8.bits (IntKind.u8.wrap (x.val : Int))).toNat : Int) = ((192 + x.val : Nat) : Int) := by decide +kernel
theorem or224 : ∀ x : Fin 16, IntKind.u8.wrap ((BitVec.ofInt IntKind.u8.bits 224 ||| BitVec.ofInt IntKind.u8.bits (IntKind.u8.wrap (x.val : Int))).toNat : Int) = ((224 + x.val : Nat) : Int) := by decide +kernel
theorem or240 : ∀ x : Fin 8, IntKind.u8.wrap ((BitVec.ofInt IntKind.u8.bits 240 ||| BitVec.ofInt IntKind.u8.bits (IntKind.u8.wrap (x.val : Int))).toNat : Int) = ((240 + x.val : Nat) : Int) := by decide +kernel
theorem and63 : ∀ x : Fin 256, IntKind.u8.wrap ((BitVec.ofInt IntKind.u8.bits (x.val : Int) &&& BitVec.ofInt IntKind.u8.bits 63).toNat : Int) = ((x.val % 64 : Nat) : Int) := by decide +kernel

theorem wrap8 (n : Nat) : IntKind.u8.wrap (n : Int) = ((n % 256 : Nat) : Int) := by
  simp only [IntKind.wrap, IntKind.bits, IntKind.signed]
  simp
theorem wrap32u {n : Nat} (h : n < 1114112) : IntKind.u32.wrap (n : Int) = (n : Int) := by
  simp only [IntKind.wrap, IntKind.bits, IntKind.signed]
  simp
  omega
theorem shr (c n : Nat) (h : n ≤ 32) : Int.fdiv (c : Int) (2 ^ (min n IntKind.i32.bits)) = ((c / 2 ^ n : Nat) : Int) := by
  have e : min n IntKind.i32.bits = n := Nat.min_eq_left h
  rw [e, Int.fdiv_eq_ediv_of_nonneg _ (by exact Int.le_of_lt (Int.pow_pos (by omega)))]
  rw [Int.natCast_ediv]
  congr 1

theorem cont (c : Nat) : IntKind.u8.wrap ((BitVec.ofInt IntKind.u8.bits 128 ||| BitVec.ofInt IntKind.u8.bits (IntKind.u8.wrap ((BitVec.ofInt IntKind.u8.bits (IntKind.u8.wrap (c : Int)) &&& BitVec.ofInt IntKind.u8.bits 63).toNat : Int))).toNat : Int) = ((128 + c % 64 : Nat) : Int) := by
  have h1 := and63 ⟨c % 256, Nat.mod_lt _ (by omega)⟩
  simp only at h1
  rw [wrap8 c, h1, show c % 256 % 64 = c % 64 by omega]
  exact or128 ⟨c % 64, Nat.mod_lt _ (by omega)⟩

theorem zs_enc1 (n : Nat) (h : n < 256) : zs [UInt8.ofNat n] = [(n : Int)] := by simp only [zs, List.map_cons, List.map_nil, zs_nat n h]

theorem ar {R : Type} {c : Nat} (hv : vr c) (s : Str) (hl : Lim s) (k : List Int → Option R) : unicode_utf8_AppendRune_7b6c (zs s) (c : Int) k = k (zs (s ++ enc c)) := by
  have hlt := vr_lt hv
  unfold Lim at hl
  show unicode_utf8_AppendRune_7b6c_X unicode_utf8_appendRuneNonASCII_7b6c (zs s) (c : Int) k = _
  unfold unicode_utf8_AppendRune_7b6c_X
  rw [wrap32u hlt, zs_app]
  rcases enc_cases hv with ⟨h1, e⟩ | ⟨h0, h1, e⟩ | ⟨h0, h1, e⟩ | ⟨h0, e⟩
  · rw [dtrue (show (c : Int) ≤ 127 by omega), cond_true, chk_pos (dtrue (by rw [zs_len]; omega)), e, zs_enc1 c (by omega), wrap8, Nat.mod_eq_of_lt (by omega)]
  all_goals
    rw [dfalse (show ¬ (c : Int) ≤ 127 by omega), cond_false]
    show unicode_utf8_appendRuneNonASCII_7b6c_X (zs s) (c : Int) _ = _
    unfold unicode_utf8_appendRuneNonASCII_7b6c_X
    rw [wrap32u hlt, e]
    simp only [cont, shr _ 6 (by omega), shr _ 12 (by omega), shr _ 18 (by omega), zs_len]
  · rw [dtrue (show (c : Int) ≤ 2047 by omega), cond_true, chk_pos (dtrue (by omega))]
    have := or192 ⟨c / 64, by omega⟩
    simp only at this
    rw [show c / 2 ^ 6 = c / 64 from rfl, this]
    simp only [zs, List.map_cons, List.map_nil, zs_nat (192 + c / 64) (by omega), zs_nat (128 + c % 64) (by omega)]
  · rw [dfalse (show ¬ (c : Int) ≤ 2047 by omega), cond_false]
    unfold vr at hv
    by_cases h2 : c < 55296
    · rw [dtrue (show (c : Int) < 55296 by omega), cond_true, cond_true, chk_pos (dtrue (by omega))]
      have := or224 ⟨c / 4096, by omega⟩
      simp only at this
      rw [show c / 2 ^ 12 = c / 4096 from rfl, this]
      simp only [zs, List.map_cons, List.map_nil, zs_nat (224 + c / 4096) (by omega), zs_nat (128 + c % 64) (by omega), zs_nat (128 + c / 64 % 64) (by omega)]
    rw [dfalse (show ¬ (c : Int) < 55296 by omega), cond_false, dtrue (show (57343 : Int) < (c : Int) by omega), cond_true, dtrue (show (c : Int) ≤ 65535 by omega), cond_true, chk_pos (dtrue (by omega))]
    have := or224 ⟨c / 4096, by omega⟩
    simp only at this
    rw [show c / 2 ^ 12 = c / 4096 from rfl, this]
    simp only [zs, List.map_cons, List.map_nil, zs_nat (224 + c / 4096) (by omega), zs_nat (128 + c % 64) (by omega), zs_nat (128 + c / 64 % 64) (by omega)]
  · rw [dfalse (show ¬ (c : Int) ≤ 2047 by omega), cond_false]
    rw [dfalse (show ¬ (c : Int) < 55296 by omega), cond_false, dtrue (show (57343 : Int) < (c : Int) by omega), cond_true, dfalse (show ¬ (c : Int) ≤ 65535 by omega), cond_false,
      dtrue (show (c : Int) > 65535 by omega), cond_true, dtrue (show (c : Int) ≤ 1114111 by omega), cond_true, chk_pos (dtrue (by omega))]
    have := or240 ⟨c / 262144, by omega⟩
    simp only at this
    rw [show c / 2 ^ 18 = c / 262144 from rfl, this]
    simp only [zs, List.map_cons, List.map_nil, zs_nat (240 + c / 262144) (by omega), zs_nat (128 + c % 64) (by omega), zs_nat (128 + c / 64 % 64) (by omega), zs_nat (128 + c / 4096 % 64) (by omega)]

theorem wr {R : Type} {c : Nat} (hv : vr c) (s : Str) (hl : Lim s) (k : Int → List Int → Option R) : ∃ n : Int, strings_Builder_WriteRune_dc6e (c : Int) (zs s) k = k n (zs (s ++ enc c)) := by
  refine ⟨IntKind.i64.wrap (((zs (s ++ enc c)).length : Int) - ((zs s).length : Int)), ?_⟩
  show strings_Builder_WriteRune_dc6e_X unicode_utf8_AppendRune_7b6c (c : Int) (zs s) k = _
  unfold strings_Builder_WriteRune_dc6e_X
  rw [ar hv s hl]
end Go.Proofs.YtmlkkgfenfdndaaGreatDoor

/-
  Functions of the program as pure Lean functions, and the ties; printed by wip/tools/emit.py.
-/
set_option maxRecDepth 100000
set_option linter.unusedVariables false
namespace Go.Proofs.YtmlkkgfenfdndaaGreatDoor
open Go Go.Yard

/-! ### humpyard/decimal.Print -/
abbrev decimal_Print_ty (R : Type) : Type := Dcm → (Str → Option R) → Option R
abbrev decimal_Print_p : List Pat := [.agg [.int .i64, .int .i64]]
abbrev decimal_Print_q : List HPat := []
noncomputable def decimal_Print_rr {R : Type} (fn : decimal_Print_ty R) : Pat.dens decimal_Print_p → HPat.dens decimal_Print_q → (V → Heap → Option R) → Option R := fun x y k => fn (⟨x.1.1, x.1.2.1⟩ : Dcm) (fun q0 => k (.str q0) [])
noncomputable def decimal_Print_E (R : Type) (decimal_Right : decimal_Right_ty R) (strings_Builder_WriteByte_b66c : strings_Builder_WriteByte_b66c_ty R) (strings_Builder_WriteString_df1e : strings_Builder_WriteString_df1e_ty R) (strings_Builder_WriteString_fb8e : strings_Builder_WriteString_fb8e_ty R) : Env R := fun i => match i with
  | 65 => some (true, (specBy decimal_Right_p decimal_Right_q (decimal_Right_rr decimal_Right) specNo))
  | 50 => some (false, (specBy strings_Builder_WriteByte_b66c_p strings_Builder_WriteByte_b66c_q (strings_Builder_WriteByte_b66c_rr strings_Builder_WriteByte_b66c) specNo))
  | 52 => some (false, (specBy strings_Builder_WriteString_fb8e_p strings_Builder_WriteString_fb8e_q (strings_Builder_WriteString_fb8e_rr strings_Builder_WriteString_fb8e) (specBy strings_Builder_WriteString_df1e_p strings_Builder_WriteString_df1e_q (strings_Builder_WriteString_df1e_rr strings_Builder_WriteString_df1e) specNo)))
  | 39 => some (false, (bstr_S R))
  | 66 => some (true, (itoa_S R))
  | 67 => some (true, (rep_S R))
  | _ => none
theorem decimal_Print_EOk (R : Type) : EOk Tryz.prog (decimal_Print_E R decimal_Right strings_Builder_WriteByte_b66c strings_Builder_WriteString_df1e strings_Builder_WriteString_fb8e) := by
  intro i b sp h
  unfold decimal_Print_E at h
  split at h
  · cases h; exact ⟨(decimal_Right_S_ok R _ (specNo_ok _)), fun h => nomatch h⟩
  · cases h; exact ⟨(strings_Builder_WriteByte_b66c_S_ok R _ (specNo_ok _)), fun _ h => nomatch h⟩
  · cases h; exact ⟨(strings_Builder_WriteString_fb8e_S_ok R _ (strings_Builder_WriteString_df1e_S_ok R _ (specNo_ok _))), fun _ h => nomatch h⟩
  · cases h; exact ⟨(bstr_is), fun _ _ => bstr_soft⟩
  · cases h; exact ⟨(itoa_ok), fun h => nomatch h⟩
  · cases h; exact ⟨(rep_ok), fun h => nomatch h⟩
  · cases h

noncomputable def decimal_Print_T (R : Type) : Nat → Option (Hint × LSpec R) := fun i => match i with
  | _ => none

noncomputable def decimal_Print_X {R : Type} (decimal_Right : decimal_Right_ty R) (strings_Builder_WriteByte_b66c : strings_Builder_WriteByte_b66c_ty R) (strings_Builder_WriteString_df1e : strings_Builder_WriteString_df1e_ty R) (strings_Builder_WriteString_fb8e : strings_Builder_WriteString_fb8e_ty R) (x1 : Dcm) (k0 : Str → Option R) : Option R :=
  decimal_Right x1 (fun y2 => bif (!y2) then (k0 ([] : Str)) else (bif (decide (x1.mant < (0 : Int))) then (strings_Builder_WriteByte_b66c 45 (fun y3 => bif (decide (x1.exp ≥ (0 : Int))) then (chk (decide (0 ≤ x1.exp) && decide ((([48] : Str).length : Int) * x1.exp ≤ 140737488355328)) (chk (decide ((itoaS (max x1.mant (IntKind.i64.wrap (0 - x1.mant)))).length + (repS ([48] : Str) x1.exp).length ≤ 9223372036854775807)) (strings_Builder_WriteString_df1e ((itoaS (max x1.mant (IntKind.i64.wrap (0 - x1.mant)))) ++ (repS ([48] : Str) x1.exp)) y3 (fun y4 y5 => k0 (bstr y5))))) else (chk (decide (0 ≤ (max 0 (IntKind.i64.wrap ((IntKind.i64.wrap (1 - x1.exp)) - ((itoaS (max x1.mant (IntKind.i64.wrap (0 - x1.mant)))).length : Int))))) && decide ((([48] : Str).length : Int) * (max 0 (IntKind.i64.wrap ((IntKind.i64.wrap (1 - x1.exp)) - ((itoaS (max x1.mant (IntKind.i64.wrap (0 - x1.mant)))).length : Int)))) ≤ 140737488355328)) (chk (decide ((repS ([48] : Str) (max 0 (IntKind.i64.wrap ((IntKind.i64.wrap (1 - x1.exp)) - ((itoaS (max x1.mant (IntKind.i64.wrap (0 - x1.mant)))).length : Int))))).length + (itoaS (max x1.mant (IntKind.i64.wrap (0 - x1.mant)))).length ≤ 9223372036854775807)) (chk (decide ((0 : Int) ≤ (IntKind.i64.wrap ((((repS ([48] : Str) (max 0 (IntKind.i64.wrap ((IntKind.i64.wrap (1 - x1.exp)) - ((itoaS (max x1.mant (IntKind.i64.wrap (0 - x1.mant)))).length : Int))))) ++ (itoaS (max x1.mant (IntKind.i64.wrap (0 - x1.mant))))).length : Int) + x1.exp))) && decide ((IntKind.i64.wrap ((((repS ([48] : Str) (max 0 (IntKind.i64.wrap ((IntKind.i64.wrap (1 - x1.exp)) - ((itoaS (max x1.mant (IntKind.i64.wrap (0 - x1.mant)))).length : Int))))) ++ (itoaS (max x1.mant (IntKind.i64.wrap (0 - x1.mant))))).length : Int) + x1.exp)) ≤ ((repS ([48] : Str) (max 0 (IntKind.i64.wrap ((IntKind.i64.wrap (1 - x1.exp)) - ((itoaS (max x1.mant (IntKind.i64.wrap (0 - x1.mant)))).length : Int))))) ++ (itoaS (max x1.mant (IntKind.i64.wrap (0 - x1.mant))))).length)) (chk (decide ((0 : Int) ≤ (IntKind.i64.wrap ((((repS ([48] : Str) (max 0 (IntKind.i64.wrap ((IntKind.i64.wrap (1 - x1.exp)) - ((itoaS (max x1.mant (IntKind.i64.wrap (0 - x1.mant)))).length : Int))))) ++ (itoaS (max x1.mant (IntKind.i64.wrap (0 - x1.mant))))).length : Int) + x1.exp)))) (chk (decide (((((repS ([48] : Str) (max 0 (IntKind.i64.wrap ((IntKind.i64.wrap (1 - x1.exp)) - ((itoaS (max x1.mant (IntKind.i64.wrap (0 - x1.mant)))).length : Int))))) ++ (itoaS (max x1.mant (IntKind.i64.wrap (0 - x1.mant))))).drop 0).take ((IntKind.i64.wrap ((((repS ([48] : Str) (max 0 (IntKind.i64.wrap ((IntKind.i64.wrap (1 - x1.exp)) - ((itoaS (max x1.mant (IntKind.i64.wrap (0 - x1.mant)))).length : Int))))) ++ (itoaS (max x1.mant (IntKind.i64.wrap (0 - x1.mant))))).length : Int) + x1.exp)).toNat - 0)).length + 1 ≤ 9223372036854775807)) (chk (decide ((0 : Int) ≤ (((repS ([48] : Str) (max 0 (IntKind.i64.wrap ((IntKind.i64.wrap (1 - x1.exp)) - ((itoaS (max x1.mant (IntKind.i64.wrap (0 - x1.mant)))).length : Int))))) ++ (itoaS (max x1.mant (IntKind.i64.wrap (0 - x1.mant))))).length : Int)) && decide ((((repS ([48] : Str) (max 0 (IntKind.i64.wrap ((IntKind.i64.wrap (1 - x1.exp)) - ((itoaS (max x1.mant (IntKind.i64.wrap (0 - x1.mant)))).length : Int))))) ++ (itoaS (max x1.mant (IntKind.i64.wrap (0 - x1.mant))))).length : Int) ≤ ((repS ([48] : Str) (max 0 (IntKind.i64.wrap ((IntKind.i64.wrap (1 - x1.exp)) - ((itoaS (max x1.mant (IntKind.i64.wrap (0 - x1.mant)))).length : Int))))) ++ (itoaS (max x1.mant (IntKind.i64.wrap (0 - x1.mant))))).length)) (chk (decide ((0 : Int) ≤ (IntKind.i64.wrap ((((repS ([48] : Str) (max 0 (IntKind.i64.wrap ((IntKind.i64.wrap (1 - x1.exp)) - ((itoaS (max x1.mant (IntKind.i64.wrap (0 - x1.mant)))).length : Int))))) ++ (itoaS (max x1.mant (IntKind.i64.wrap (0 - x1.mant))))).length : Int) + x1.exp))) && decide ((IntKind.i64.wrap ((((repS ([48] : Str) (max 0 (IntKind.i64.wrap ((IntKind.i64.wrap (1 - x1.exp)) - ((itoaS (max x1.mant (IntKind.i64.wrap (0 - x1.mant)))).length : Int))))) ++ (itoaS (max x1.mant (IntKind.i64.wrap (0 - x1.mant))))).length : Int) + x1.exp)) ≤ (((repS ([48] : Str) (max 0 (IntKind.i64.wrap ((IntKind.i64.wrap (1 - x1.exp)) - ((itoaS (max x1.mant (IntKind.i64.wrap (0 - x1.mant)))).length : Int))))) ++ (itoaS (max x1.mant (IntKind.i64.wrap (0 - x1.mant))))).length : Int))) (chk (decide ((((((repS ([48] : Str) (max 0 (IntKind.i64.wrap ((IntKind.i64.wrap (1 - x1.exp)) - ((itoaS (max x1.mant (IntKind.i64.wrap (0 - x1.mant)))).length : Int))))) ++ (itoaS (max x1.mant (IntKind.i64.wrap (0 - x1.mant))))).drop 0).take ((IntKind.i64.wrap ((((repS ([48] : Str) (max 0 (IntKind.i64.wrap ((IntKind.i64.wrap (1 - x1.exp)) - ((itoaS (max x1.mant (IntKind.i64.wrap (0 - x1.mant)))).length : Int))))) ++ (itoaS (max x1.mant (IntKind.i64.wrap (0 - x1.mant))))).length : Int) + x1.exp)).toNat - 0)) ++ ([46] : Str)).length + ((((repS ([48] : Str) (max 0 (IntKind.i64.wrap ((IntKind.i64.wrap (1 - x1.exp)) - ((itoaS (max x1.mant (IntKind.i64.wrap (0 - x1.mant)))).length : Int))))) ++ (itoaS (max x1.mant (IntKind.i64.wrap (0 - x1.mant))))).drop (IntKind.i64.wrap ((((repS ([48] : Str) (max 0 (IntKind.i64.wrap ((IntKind.i64.wrap (1 - x1.exp)) - ((itoaS (max x1.mant (IntKind.i64.wrap (0 - x1.mant)))).length : Int))))) ++ (itoaS (max x1.mant (IntKind.i64.wrap (0 - x1.mant))))).length : Int) + x1.exp)).toNat).take ((((repS ([48] : Str) (max 0 (IntKind.i64.wrap ((IntKind.i64.wrap (1 - x1.exp)) - ((itoaS (max x1.mant (IntKind.i64.wrap (0 - x1.mant)))).length : Int))))) ++ (itoaS (max x1.mant (IntKind.i64.wrap (0 - x1.mant))))).length : Int).toNat - (IntKind.i64.wrap ((((repS ([48] : Str) (max 0 (IntKind.i64.wrap ((IntKind.i64.wrap (1 - x1.exp)) - ((itoaS (max x1.mant (IntKind.i64.wrap (0 - x1.mant)))).length : Int))))) ++ (itoaS (max x1.mant (IntKind.i64.wrap (0 - x1.mant))))).length : Int) + x1.exp)).toNat)).length ≤ 9223372036854775807)) (strings_Builder_WriteString_df1e ((((((repS ([48] : Str) (max 0 (IntKind.i64.wrap ((IntKind.i64.wrap (1 - x1.exp)) - ((itoaS (max x1.mant (IntKind.i64.wrap (0 - x1.mant)))).length : Int))))) ++ (itoaS (max x1.mant (IntKind.i64.wrap (0 - x1.mant))))).drop 0).take ((IntKind.i64.wrap ((((repS ([48] : Str) (max 0 (IntKind.i64.wrap ((IntKind.i64.wrap (1 - x1.exp)) - ((itoaS (max x1.mant (IntKind.i64.wrap (0 - x1.mant)))).length : Int))))) ++ (itoaS (max x1.mant (IntKind.i64.wrap (0 - x1.mant))))).length : Int) + x1.exp)).toNat - 0)) ++ ([46] : Str)) ++ ((((repS ([48] : Str) (max 0 (IntKind.i64.wrap ((IntKind.i64.wrap (1 - x1.exp)) - ((itoaS (max x1.mant (IntKind.i64.wrap (0 - x1.mant)))).length : Int))))) ++ (itoaS (max x1.mant (IntKind.i64.wrap (0 - x1.mant))))).drop (IntKind.i64.wrap ((((repS ([48] : Str) (max 0 (IntKind.i64.wrap ((IntKind.i64.wrap (1 - x1.exp)) - ((itoaS (max x1.mant (IntKind.i64.wrap (0 - x1.mant)))).length : Int))))) ++ (itoaS (max x1.mant (IntKind.i64.wrap (0 - x1.mant))))).length : Int) + x1.exp)).toNat).take ((((repS ([48] : Str) (max 0 (IntKind.i64.wrap ((IntKind.i64.wrap (1 - x1.exp)) - ((itoaS (max x1.mant (IntKind.i64.wrap (0 - x1.mant)))).length : Int))))) ++ (itoaS (max x1.mant (IntKind.i64.wrap (0 - x1.mant))))).length : Int).toNat - (IntKind.i64.wrap ((((repS ([48] : Str) (max 0 (IntKind.i64.wrap ((IntKind.i64.wrap (1 - x1.exp)) - ((itoaS (max x1.mant (IntKind.i64.wrap (0 - x1.mant)))).length : Int))))) ++ (itoaS (max x1.mant (IntKind.i64.wrap (0 - x1.mant))))).length : Int) + x1.exp)).toNat))) y3 (fun y6 y7 => k0 (bstr y7))))))))))))) else (bif (decide (x1.exp ≥ (0 : Int))) then (chk (decide (0 ≤ x1.exp) && decide ((([48] : Str).length : Int) * x1.exp ≤ 140737488355328)) (chk (decide ((itoaS (max x1.mant (IntKind.i64.wrap (0 - x1.mant)))).length + (repS ([48] : Str) x1.exp).length ≤ 9223372036854775807)) (strings_Builder_WriteString_fb8e ((itoaS (max x1.mant (IntKind.i64.wrap (0 - x1.mant)))) ++ (repS ([48] : Str) x1.exp)) (fun y8 y9 => k0 (bstr y9))))) else (chk (decide (0 ≤ (max 0 (IntKind.i64.wrap ((IntKind.i64.wrap (1 - x1.exp)) - ((itoaS (max x1.mant (IntKind.i64.wrap (0 - x1.mant)))).length : Int))))) && decide ((([48] : Str).length : Int) * (max 0 (IntKind.i64.wrap ((IntKind.i64.wrap (1 - x1.exp)) - ((itoaS (max x1.mant (IntKind.i64.wrap (0 - x1.mant)))).length : Int)))) ≤ 140737488355328)) (chk (decide ((repS ([48] : Str) (max 0 (IntKind.i64.wrap ((IntKind.i64.wrap (1 - x1.exp)) - ((itoaS (max x1.mant (IntKind.i64.wrap (0 - x1.mant)))).length : Int))))).length + (itoaS (max x1.mant (IntKind.i64.wrap (0 - x1.mant)))).length ≤ 9223372036854775807)) (chk (decide ((0 : Int) ≤ (IntKind.i64.wrap ((((repS ([48] : Str) (max 0 (IntKind.i64.wrap ((IntKind.i64.wrap (1 - x1.exp)) - ((itoaS (max x1.mant (IntKind.i64.wrap (0 - x1.mant)))).length : Int))))) ++ (itoaS (max x1.mant (IntKind.i64.wrap (0 - x1.mant))))).length : Int) + x1.exp))) && decide ((IntKind.i64.wrap ((((repS ([48] : Str) (max 0 (IntKind.i64.wrap ((IntKind.i64.wrap (1 - x1.exp)) - ((itoaS (max x1.mant (IntKind.i64.wrap (0 - x1.mant)))).length : Int))))) ++ (itoaS (max x1.mant (IntKind.i64.wrap (0 - x1.mant))))).length : Int) + x1.exp)) ≤ ((repS ([48] : Str) (max 0 (IntKind.i64.wrap ((IntKind.i64.wrap (1 - x1.exp)) - ((itoaS (max x1.mant (IntKind.i64.wrap (0 - x1.mant)))).length : Int))))) ++ (itoaS (max x1.mant (IntKind.i64.wrap (0 - x1.mant))))).length)) (chk (decide ((0 : Int) ≤ (IntKind.i64.wrap ((((repS ([48] : Str) (max 0 (IntKind.i64.wrap ((IntKind.i64.wrap (1 - x1.exp)) - ((itoaS (max x1.mant (IntKind.i64.wrap (0 - x1.mant)))).length : Int))))) ++ (itoaS (max x1.mant (IntKind.i64.wrap (0 - x1.mant))))).length : Int) + x1.exp)))) (chk (decide (((((repS ([48] : Str) (max 0 (IntKind.i64.wrap ((IntKind.i64.wrap (1 - x1.exp)) - ((itoaS (max x1.mant (IntKind.i64.wrap (0 - x1.mant)))).length : Int))))) ++ (itoaS (max x1.mant (IntKind.i64.wrap (0 - x1.mant))))).drop 0).take ((IntKind.i64.wrap ((((repS ([48] : Str) (max 0 (IntKind.i64.wrap ((IntKind.i64.wrap (1 - x1.exp)) - ((itoaS (max x1.mant (IntKind.i64.wrap (0 - x1.mant)))).length : Int))))) ++ (itoaS (max x1.mant (IntKind.i64.wrap (0 - x1.mant))))).length : Int) + x1.exp)).toNat - 0)).length + 1 ≤ 9223372036854775807)) (chk (decide ((0 : Int) ≤ (((repS ([48] : Str) (max 0 (IntKind.i64.wrap ((IntKind.i64.wrap (1 - x1.exp)) - ((itoaS (max x1.mant (IntKind.i64.wrap (0 - x1.mant)))).length : Int))))) ++ (itoaS (max x1.mant (IntKind.i64.wrap (0 - x1.mant))))).length : Int)) && decide ((((repS ([48] : Str) (max 0 (IntKind.i64.wrap ((IntKind.i64.wrap (1 - x1.exp)) - ((itoaS (max x1.mant (IntKind.i64.wrap (0 - x1.mant)))).length : Int))))) ++ (itoaS (max x1.mant (IntKind.i64.wrap (0 - x1.mant))))).length : Int) ≤ ((repS ([48] : Str) (max 0 (IntKind.i64.wrap ((IntKind.i64.wrap (1 - x1.exp)) - ((itoaS (max x1.mant (IntKind.i64.wrap (0 - x1.mant)))).length : Int))))) ++ (itoaS (max x1.mant (IntKind.i64.wrap (0 - x1.mant))))).length)) (chk (decide ((0 : Int) ≤ (IntKind.i64.wrap ((((repS ([48] : Str) (max 0 (IntKind.i64.wrap ((IntKind.i64.wrap (1 - x1.exp)) - ((itoaS (max x1.mant (IntKind.i64.wrap (0 - x1.mant)))).length : Int))))) ++ (itoaS (max x1.mant (IntKind.i64.wrap (0 - x1.mant))))).length : Int) + x1.exp))) && decide ((IntKind.i64.wrap ((((repS ([48] : Str) (max 0 (IntKind.i64.wrap ((IntKind.i64.wrap (1 - x1.exp)) - ((itoaS (max x1.mant (IntKind.i64.wrap (0 - x1.mant)))).length : Int))))) ++ (itoaS (max x1.mant (IntKind.i64.wrap (0 - x1.mant))))).length : Int) + x1.exp)) ≤ (((repS ([48] : Str) (max 0 (IntKind.i64.wrap ((IntKind.i64.wrap (1 - x1.exp)) - ((itoaS (max x1.mant (IntKind.i64.wrap (0 - x1.mant)))).length : Int))))) ++ (itoaS (max x1.mant (IntKind.i64.wrap (0 - x1.mant))))).length : Int))) (chk (decide ((((((repS ([48] : Str) (max 0 (IntKind.i64.wrap ((IntKind.i64.wrap (1 - x1.exp)) - ((itoaS (max x1.mant (IntKind.i64.wrap (0 - x1.mant)))).length : Int))))) ++ (itoaS (max x1.mant (IntKind.i64.wrap (0 - x1.mant))))).drop 0).take ((IntKind.i64.wrap ((((repS ([48] : Str) (max 0 (IntKind.i64.wrap ((IntKind.i64.wrap (1 - x1.exp)) - ((itoaS (max x1.mant (IntKind.i64.wrap (0 - x1.mant)))).length : Int))))) ++ (itoaS (max x1.mant (IntKind.i64.wrap (0 - x1.mant))))).length : Int) + x1.exp)).toNat - 0)) ++ ([46] : Str)).length + ((((repS ([48] : Str) (max 0 (IntKind.i64.wrap ((IntKind.i64.wrap (1 - x1.exp)) - ((itoaS (max x1.mant (IntKind.i64.wrap (0 - x1.mant)))).length : Int))))) ++ (itoaS (max x1.mant (IntKind.i64.wrap (0 - x1.mant))))).drop (IntKind.i64.wrap ((((repS ([48] : Str) (max 0 (IntKind.i64.wrap ((IntKind.i64.wrap (1 - x1.exp)) - ((itoaS (max x1.mant (IntKind.i64.wrap (0 - x1.mant)))).length : Int))))) ++ (itoaS (max x1.mant (IntKind.i64.wrap (0 - x1.mant))))).length : Int) + x1.exp)).toNat).take ((((repS ([48] : Str) (max 0 (IntKind.i64.wrap ((IntKind.i64.wrap (1 - x1.exp)) - ((itoaS (max x1.mant (IntKind.i64.wrap (0 - x1.mant)))).length : Int))))) ++ (itoaS (max x1.mant (IntKind.i64.wrap (0 - x1.mant))))).length : Int).toNat - (IntKind.i64.wrap ((((repS ([48] : Str) (max 0 (IntKind.i64.wrap ((IntKind.i64.wrap (1 - x1.exp)) - ((itoaS (max x1.mant (IntKind.i64.wrap (0 - x1.mant)))).length : Int))))) ++ (itoaS (max x1.mant (IntKind.i64.wrap (0 - x1.mant))))).length : Int) + x1.exp)).toNat)).length ≤ 9223372036854775807)) (strings_Builder_WriteString_fb8e ((((((repS ([48] : Str) (max 0 (IntKind.i64.wrap ((IntKind.i64.wrap (1 - x1.exp)) - ((itoaS (max x1.mant (IntKind.i64.wrap (0 - x1.mant)))).length : Int))))) ++ (itoaS (max x1.mant (IntKind.i64.wrap (0 - x1.mant))))).drop 0).take ((IntKind.i64.wrap ((((repS ([48] : Str) (max 0 (IntKind.i64.wrap ((IntKind.i64.wrap (1 - x1.exp)) - ((itoaS (max x1.mant (IntKind.i64.wrap (0 - x1.mant)))).length : Int))))) ++ (itoaS (max x1.mant (IntKind.i64.wrap (0 - x1.mant))))).length : Int) + x1.exp)).toNat - 0)) ++ ([46] : Str)) ++ ((((repS ([48] : Str) (max 0 (IntKind.i64.wrap ((IntKind.i64.wrap (1 - x1.exp)) - ((itoaS (max x1.mant (IntKind.i64.wrap (0 - x1.mant)))).length : Int))))) ++ (itoaS (max x1.mant (IntKind.i64.wrap (0 - x1.mant))))).drop (IntKind.i64.wrap ((((repS ([48] : Str) (max 0 (IntKind.i64.wrap ((IntKind.i64.wrap (1 - x1.exp)) - ((itoaS (max x1.mant (IntKind.i64.wrap (0 - x1.mant)))).length : Int))))) ++ (itoaS (max x1.mant (IntKind.i64.wrap (0 - x1.mant))))).length : Int) + x1.exp)).toNat).take ((((repS ([48] : Str) (max 0 (IntKind.i64.wrap ((IntKind.i64.wrap (1 - x1.exp)) - ((itoaS (max x1.mant (IntKind.i64.wrap (0 - x1.mant)))).length : Int))))) ++ (itoaS (max x1.mant (IntKind.i64.wrap (0 - x1.mant))))).length : Int).toNat - (IntKind.i64.wrap ((((repS ([48] : Str) (max 0 (IntKind.i64.wrap ((IntKind.i64.wrap (1 - x1.exp)) - ((itoaS (max x1.mant (IntKind.i64.wrap (0 - x1.mant)))).length : Int))))) ++ (itoaS (max x1.mant (IntKind.i64.wrap (0 - x1.mant))))).length : Int) + x1.exp)).toNat))) (fun y10 y11 => k0 (bstr y11))))))))))))))
noncomputable def decimal_Print {R : Type} : decimal_Print_ty R := fun x1 k0 => decimal_Print_X decimal_Right strings_Builder_WriteByte_b66c strings_Builder_WriteString_df1e strings_Builder_WriteString_fb8e x1 k0
theorem decimal_Print_ok {R : Type} (decimal_Right : decimal_Right_ty R) (strings_Builder_WriteByte_b66c : strings_Builder_WriteByte_b66c_ty R) (strings_Builder_WriteString_df1e : strings_Builder_WriteString_df1e_ty R) (strings_Builder_WriteString_fb8e : strings_Builder_WriteString_fb8e_ty R) (x1 : Dcm) (k : V → Heap → Option R) : funK tt (decimal_Print_E R decimal_Right strings_Builder_WriteByte_b66c strings_Builder_WriteString_df1e strings_Builder_WriteString_fb8e) (decimal_Print_T R) false Tryz.f46 (codeOf Tryz.f46) [.agg [.int .i64 x1.mant, .int .i64 x1.exp]] [] k =
    decimal_Print_X decimal_Right strings_Builder_WriteByte_b66c strings_Builder_WriteString_df1e strings_Builder_WriteString_fb8e x1 (fun q0 => k (.str q0) []) := by kernel_rfl
theorem decimal_Print_loops (R : Type) : ∀ a ∈ loopsOf (codeOf Tryz.f46), LoopOk tt (decimal_Print_E R decimal_Right strings_Builder_WriteByte_b66c strings_Builder_WriteString_df1e strings_Builder_WriteString_fb8e) (decimal_Print_T R) 0 a := by
  refine loops_ok 0 (by kernel_rfl) fun i hi => ?_
  omega
theorem decimal_Print_S_ok (R : Type) (other : Yard.Spec R) (ho : Yard.Spec.Ok Tryz.prog 46 other) : Yard.Spec.Ok Tryz.prog 46 (specBy decimal_Print_p decimal_Print_q (decimal_Print_rr decimal_Print) other) :=
  specBy_ok ho (funK_sound TT mixed (decimal_Print_EOk R) (keep := false) rfl rfl rfl rfl 0 (decimal_Print_loops R)) fun (x : Pat.dens decimal_Print_p) (y : HPat.dens decimal_Print_q) k => decimal_Print_ok decimal_Right strings_Builder_WriteByte_b66c strings_Builder_WriteString_df1e strings_Builder_WriteString_fb8e (⟨x.1.1, x.1.2.1⟩ : Dcm) k

/-! ### humpyard/humpyardlaw03.Word -/
abbrev law03_Word_ty (R : Type) : Type := Raw3 → (Str → Option R) → Option R
abbrev law03_Word_p : List Pat := [.agg [.int .i64, .int .i64, .int .i64, .sl (.int .i64)]]
abbrev law03_Word_q : List HPat := []
noncomputable def law03_Word_rr {R : Type} (fn : law03_Word_ty R) : Pat.dens law03_Word_p → HPat.dens law03_Word_q → (V → Heap → Option R) → Option R := fun x y k => fn (⟨x.1.1, x.1.2.1, x.1.2.2.1, x.1.2.2.2.1⟩ : Raw3) (fun q0 => k (.str q0) [])
noncomputable def law03_Word_E (R : Type) (law02_Text : law02_Text_ty R) (quote_Quote : quote_Quote_ty R) (law01_Fit : law01_Fit_ty R) (decimal_Print : decimal_Print_ty R) (law03_pick : law03_pick_ty R) : Env R := fun i => match i with
  | 37 => some (true, (specBy law02_Text_p law02_Text_q (law02_Text_rr law02_Text) specNo))
  | 26 => some (true, (specBy quote_Quote_p quote_Quote_q (quote_Quote_rr quote_Quote) specNo))
  | 28 => some (true, (specBy law01_Fit_p law01_Fit_q (law01_Fit_rr law01_Fit) specNo))
  | 46 => some (true, (specBy decimal_Print_p decimal_Print_q (decimal_Print_rr decimal_Print) specNo))
  | 27 => some (true, (specBy law03_pick_p law03_pick_q (law03_pick_rr law03_pick) specNo))
  | _ => none
theorem law03_Word_EOk (R : Type) : EOk Tryz.prog (law03_Word_E R law02_Text quote_Quote law01_Fit decimal_Print law03_pick) := by
  intro i b sp h
  unfold law03_Word_E at h
  split at h
  · cases h; exact ⟨(law02_Text_S_ok R _ (specNo_ok _)), fun h => nomatch h⟩
  · cases h; exact ⟨(quote_Quote_S_ok R _ (specNo_ok _)), fun h => nomatch h⟩
  · cases h; exact ⟨(law01_Fit_S_ok R _ (specNo_ok _)), fun h => nomatch h⟩
  · cases h; exact ⟨(decimal_Print_S_ok R _ (specNo_ok _)), fun h => nomatch h⟩
  · cases h; exact ⟨(law03_pick_S_ok R _ (specNo_ok _)), fun h => nomatch h⟩
  · cases h

noncomputable def law03_Word_T (R : Type) : Nat → Option (Hint × LSpec R) := fun i => match i with
  | _ => none

noncomputable def law03_Word_X {R : Type} (law02_Text : law02_Text_ty R) (quote_Quote : quote_Quote_ty R) (law01_Fit : law01_Fit_ty R) (decimal_Print : decimal_Print_ty R) (law03_pick : law03_pick_ty R) (x1 : Raw3) (k0 : Str → Option R) : Option R :=
  law03_pick x1.kind 4 (fun y2 => bif (y2 == 0) then (law03_pick x1.mant 6 (fun y3 => chk (decide ((0 : Int) ≤ y3) && decide (y3 < (6 : Int))) (k0 (([([123] : Str), ([125] : Str), ([91] : Str), ([93] : Str), ([44] : Str), ([58] : Str)] : List Str).getD y3.toNat (Ty.dflt .str))))) else (bif (y2 == 1) then (chk (decide ((0 : Int) ≤ (min (x1.text.length : Int) 30)) && decide ((min (x1.text.length : Int) 30) ≤ x1.text.length)) (chk (decide ((0 : Int) ≤ (min (x1.text.length : Int) 30))) (law02_Text ((x1.text.drop 0).take ((min (x1.text.length : Int) 30).toNat - 0)) (fun y4 => quote_Quote y4 (fun y5 y6 => k0 y5))))) else (bif (y2 == 2) then (law01_Fit x1.mant x1.exp (fun y7 => decimal_Print y7 (fun y8 => k0 y8))) else (law03_pick x1.mant 3 (fun y9 => chk (decide ((0 : Int) ≤ y9) && decide (y9 < (3 : Int))) (k0 (([([116, 114, 117, 101] : Str), ([102, 97, 108, 115, 101] : Str), ([110, 117, 108, 108] : Str)] : List Str).getD y9.toNat (Ty.dflt .str))))))))
noncomputable def law03_Word {R : Type} : law03_Word_ty R := fun x1 k0 => law03_Word_X law02_Text quote_Quote law01_Fit decimal_Print law03_pick x1 k0
theorem law03_Word_ok {R : Type} (law02_Text : law02_Text_ty R) (quote_Quote : quote_Quote_ty R) (law01_Fit : law01_Fit_ty R) (decimal_Print : decimal_Print_ty R) (law03_pick : law03_pick_ty R) (x1 : Raw3) (k : V → Heap → Option R) : funK tt (law03_Word_E R law02_Text quote_Quote law01_Fit decimal_Print law03_pick) (law03_Word_T R) false Tryz.f24 (codeOf Tryz.f24) [.agg [.int .i64 x1.kind, .int .i64 x1.mant, .int .i64 x1.exp, .sl (.int .i64) x1.text .no]] [] k =
    law03_Word_X law02_Text quote_Quote law01_Fit decimal_Print law03_pick x1 (fun q0 => k (.str q0) []) := by kernel_rfl
theorem law03_Word_loops (R : Type) : ∀ a ∈ loopsOf (codeOf Tryz.f24), LoopOk tt (law03_Word_E R law02_Text quote_Quote law01_Fit decimal_Print law03_pick) (law03_Word_T R) 0 a := by
  refine loops_ok 0 (by kernel_rfl) fun i hi => ?_
  omega
theorem law03_Word_S_ok (R : Type) (other : Yard.Spec R) (ho : Yard.Spec.Ok Tryz.prog 24 other) : Yard.Spec.Ok Tryz.prog 24 (specBy law03_Word_p law03_Word_q (law03_Word_rr law03_Word) other) :=
  specBy_ok ho (funK_sound TT mixed (law03_Word_EOk R) (keep := false) rfl rfl rfl rfl 0 (law03_Word_loops R)) fun (x : Pat.dens law03_Word_p) (y : HPat.dens law03_Word_q) k => law03_Word_ok law02_Text quote_Quote law01_Fit decimal_Print law03_pick (⟨x.1.1, x.1.2.1, x.1.2.2.1, x.1.2.2.2.1⟩ : Raw3) k

end Go.Proofs.YtmlkkgfenfdndaaGreatDoor

set_option linter.unusedVariables false
set_option maxRecDepth 100000
namespace Go.Proofs.YtmlkkgfenfdndaaGreatDoor
open Go Go.Yard Go.Lib

def zeros (n : Nat) : Str := List.replicate n 48
theorem zeros_len (n : Nat) : (zeros n).length = n := List.length_replicate
theorem repeatL_zeros : ∀ n : Nat, repeatL [48] n = zeros n
  | 0 => rfl
  | n + 1 => by
    have := repeatL_zeros n
    simp [repeatL, zeros, List.replicate_succ] at this ⊢
    try exact this
theorem repS_zeros (z : Int) : repS [48] z = zeros z.toNat := repeatL_zeros _

def body (L : Str) (e : Int) : Str :=
  if 0 ≤ e then L ++ zeros e.toNat
  else
    let t := zeros (max 0 (1 - e - (L.length : Int))).toNat ++ L
    t.take ((t.length : Int) + e).toNat ++ [46] ++ t.drop ((t.length : Int) + e).toNat
def prt (d : Dcm) : Str := (if d.mant < 0 then [45] else []) ++ body (decDigits d.mant.natAbs) d.exp

theorem wsn {R : Type} (x : Str) (hx : x.length ≤ 100000000000) (k : Int → List Int → Option R) : strings_Builder_WriteString_fb8e x k = k (x.length : Int) (zs x) := by
  show chk (decide ((0 + (bytesN x).length) * 1 ≤ 140737488355328)) (k (x.length : Int) (bytesN x)) = _
  rw [zs_bytesN, chk_pos (dtrue (by rw [zs_len]; omega))]

theorem print_ok {R : Type} {d : Dcm} (h : Fm d) (k : Str → Option R) : decimal_Print d k = k (prt d) := by
  have b := h.bounds
  have e : decimal_Print d k = decimal_Print_X decimal_Right strings_Builder_WriteByte_b66c strings_Builder_WriteString_df1e strings_Builder_WriteString_fb8e d k := rfl
  rw [e]
  unfold decimal_Print_X
  rw [right_ok h, Bool.not_true, cond_false]
  have hL : itoaS (max d.mant (IntKind.i64.wrap (0 - d.mant))) = decDigits d.mant.natAbs := by
    rw [wrap_id (n := 0 - d.mant) (by omega) (by omega)]
    have hm : max d.mant (0 - d.mant) = (d.mant.natAbs : Int) := by omega
    rw [hm]
    exact itoa_nonneg _
  have hlen : (decDigits d.mant.natAbs).length ≤ 16 := by rw [decDigits_length]; exact digits16 (by omega)
  simp only [hL, repS_zeros]
  unfold prt
  generalize decDigits d.mant.natAbs = L at *
  have w1 : IntKind.i64.wrap (1 - d.exp) = 1 - d.exp := wrap_id (by omega) (by omega)
  have w2 : IntKind.i64.wrap (1 - d.exp - (L.length : Int)) = 1 - d.exp - (L.length : Int) := wrap_id (by omega) (by omega)
  rw [w1, w2]
  have one : (([48] : Str).length : Int) = 1 := rfl
  rw [one]
  have z0 : 0 ≤ max 0 (1 - d.exp - (L.length : Int)) := by omega
  have zl : max 0 (1 - d.exp - (L.length : Int)) ≤ 10 := by omega
  have zL : 1 - d.exp ≤ max 0 (1 - d.exp - (L.length : Int)) + L.length := by omega
  unfold body
  simp only
  generalize max 0 (1 - d.exp - (L.length : Int)) = z at *
  have tl : (zeros z.toNat ++ L).length = z.toNat + L.length := by rw [List.length_append, zeros_len]
  generalize zeros z.toNat ++ L = t at *
  have lapp : ∀ a b : Str, (a ++ b).length = a.length + b.length := fun a b => List.length_append
  have lone : ([46] : Str).length = 1 := rfl
  have e45 : ([45] : List Int) = zs [45] := rfl
  have q2 : ∀ (x : Int) (f : List Int → Option R), strings_Builder_WriteByte_b66c x f = f [x] := fun _ _ => rfl
  have lim45 : Lim [45] := by unfold Lim; simp
  by_cases he : 0 ≤ d.exp
  · rw [dtrue (show d.exp ≥ 0 from he), if_pos he]
    by_cases hm : d.mant < 0
    · rw [dtrue hm, if_pos hm]
      simp only [cond_true]
      rw [q2, chk_pos (by rw [dtrue (show 1 * d.exp ≤ 140737488355328 by omega)]; rfl), chk_pos (dtrue (by rw [zeros_len]; omega)), e45, ws _ _ (by rw [lapp, zeros_len]; omega) lim45, bstr_zs]
    · rw [dfalse hm, if_neg hm]
      simp only [cond_true, cond_false]
      rw [chk_pos (by rw [dtrue (show 1 * d.exp ≤ 140737488355328 by omega)]; rfl), chk_pos (dtrue (by rw [zeros_len]; omega)), wsn _ (by rw [lapp, zeros_len]; omega), bstr_zs]
      rfl
  · have wt : IntKind.i64.wrap ((t.length : Int) + d.exp) = (t.length : Int) + d.exp := wrap_id (by omega) (by omega)
    rw [dfalse (show ¬ d.exp ≥ 0 from he), if_neg he]
    simp only [wt, List.drop_zero, Nat.sub_zero, Int.toNat_natCast, cond_false]
    have l1 : (t.take ((t.length : Int) + d.exp).toNat).length ≤ t.length := by rw [List.length_take]; omega
    have l2 : (t.drop ((t.length : Int) + d.exp).toNat).length ≤ t.length := by rw [List.length_drop]; omega
    have c1 : (decide ((0 : Int) ≤ (t.length : Int) + d.exp) && decide ((t.length : Int) + d.exp ≤ (t.length : Int))) = true := by rw [dtrue (by omega), dtrue (by omega)]; rfl
    have c2 : (decide ((0 : Int) ≤ (t.length : Int)) && decide ((t.length : Int) ≤ (t.length : Int))) = true := by rw [dtrue (by omega), dtrue (by omega)]; rfl
    have c3 : (decide ((0 : Int) ≤ z) && decide (1 * z ≤ 140737488355328)) = true := by rw [dtrue z0, dtrue (by omega)]; rfl
    have et : (t.drop ((t.length : Int) + d.exp).toNat).take (t.length - ((t.length : Int) + d.exp).toNat) = t.drop ((t.length : Int) + d.exp).toNat := List.take_of_length_le (by rw [List.length_drop]; exact Nat.le_refl _)
    rw [et]
    by_cases hm : d.mant < 0
    · rw [dtrue hm, if_pos hm]
      simp only [cond_true]
      rw [q2, chk_pos c3, chk_pos (dtrue (by rw [zeros_len]; omega)), chk_pos c1, chk_pos (dtrue (by omega)), chk_pos (dtrue (by omega)), chk_pos c2, chk_pos c1, chk_pos (dtrue (by rw [lapp, lone]; omega)), e45, ws _ _ (by rw [lapp, lapp, lone]; omega) lim45, bstr_zs]
    · rw [dfalse hm, if_neg hm]
      simp only [cond_false]
      rw [chk_pos c3, chk_pos (dtrue (by rw [zeros_len]; omega)), chk_pos c1, chk_pos (dtrue (by omega)), chk_pos (dtrue (by omega)), chk_pos c2, chk_pos c1, chk_pos (dtrue (by rw [lapp, lone]; omega)), wsn _ (by rw [lapp, lapp, lone]; omega), bstr_zs]
      rfl
end Go.Proofs.YtmlkkgfenfdndaaGreatDoor

set_option linter.unusedVariables false
set_option maxRecDepth 100000
namespace Go.Proofs.YtmlkkgfenfdndaaGreatDoor
open Go Go.Yard Go.Lib

theorem band2 {p q : Prop} [Decidable p] [Decidable q] (hp : p) (hq : q) : (decide p && decide q) = true := by rw [dtrue hp, dtrue hq]; rfl

theorem take_pre : ∀ (p s : Str), (s.take p.length == p) = p.isPrefixOf s
  | [], s => by simp
  | a :: p, [] => by simp
  | a :: p, b :: s => by
    have := take_pre p s
    simp only [List.length_cons, List.take_succ_cons, List.isPrefixOf]
    rw [List.cons_beq_cons, this]
    congr 1
    exact Bool.beq_comm

theorem skip_ok {R : Type} (p s : Str) (hp : p.length ≤ 1000) (hs : s.length ≤ 9000000000000000000) (k : Bool → Str → Option R) :
    quote_reader_skip_e74a p s k = if p.isPrefixOf s then k true (s.drop p.length) else k false s := by
  have e1 : ∀ f : Str → Bool → Option R, strings_CutPrefix s p f = internal_stringslite_CutPrefix s p f := fun _ => rfl
  show strings_CutPrefix s p (fun y3 y4 => k y4 y3) = _
  rw [e1]
  show internal_stringslite_CutPrefix_X internal_stringslite_HasPrefix s p (fun y3 y4 => k y4 y3) = _
  unfold internal_stringslite_CutPrefix_X
  have e2 : ∀ f : Bool → Option R, internal_stringslite_HasPrefix s p f = f (p.isPrefixOf s) := by
    intro f
    show internal_stringslite_HasPrefix_X s p f = _
    unfold internal_stringslite_HasPrefix_X
    by_cases h : p.length ≤ s.length
    · rw [dtrue (show (s.length : Int) ≥ (p.length : Int) by omega), cond_true, chk_pos (by rw [dtrue (show (0 : Int) ≤ (p.length : Int) by omega)]; rfl), chk_pos (dtrue (by omega))]
      rw [List.drop_zero, Int.toNat_natCast, Nat.sub_zero, take_pre]
    · rw [dfalse (show ¬ (s.length : Int) ≥ (p.length : Int) by omega), cond_false]
      congr 1
      rw [← take_pre]
      symm
      rw [beq_eq_false_iff_ne]
      intro e
      have := congrArg List.length e
      rw [List.length_take] at this
      omega
  rw [e2]
  cases hp2 : p.isPrefixOf s with
  | false => simp
  | true =>
    have hle : p.length ≤ s.length := (List.IsPrefix.length_le (List.isPrefixOf_iff_prefix.1 hp2))
    rw [Bool.not_true, cond_false, chk_pos (band2 (by omega) (by omega)), chk_pos (band2 (by omega) (by omega))]
    simp only [Int.toNat_natCast, if_true]
    rw [List.take_of_length_le (by rw [List.length_drop]; exact Nat.le_refl _)]

theorem decRune_eq {s : Str} (h : s ≠ []) : decRune s = decodeL s := by
  unfold decRune
  have : s.isEmpty = false := by cases s with | nil => exact (h rfl).elim | cons _ _ => rfl
  rw [this]
  rfl

def plainP (s : Str) : Option (Nat × Str) :=
  if s = [] then none else if (decodeL s).1 = 65533 ∧ (decodeL s).2 = 1 then none else if (decodeL s).1 < 32 then none else some ((decodeL s).1, s.drop (decodeL s).2)

theorem plain_ok {R : Type} (s : Str) (hs : s.length ≤ 9000000000000000000) (k : Int → Str → Option R) :
    quote_reader_plain_abbd s k = match plainP s with | some (c, r) => k (c : Int) r | none => k (-1) s := by
  show quote_reader_plain_abbd_X s k = _
  unfold quote_reader_plain_abbd_X
  by_cases h0 : s = []
  · subst h0; rfl
  rw [decRune_eq h0]
  have hw := decodeL_width s
  have hle := decodeL_le s h0
  have hj : (chk (decide ((0 : Int) ≤ (s.length : Int)) && decide ((s.length : Int) ≤ s.length)) (chk (decide ((0 : Int) ≤ ((decodeL s).2 : Int)) && decide (((decodeL s).2 : Int) ≤ (s.length : Int))) (k ((decodeL s).1 : Int) ((s.drop ((decodeL s).2 : Int).toNat).take ((s.length : Int).toNat - ((decodeL s).2 : Int).toNat))))) = k ((decodeL s).1 : Int) (s.drop (decodeL s).2) := by
    rw [chk_pos (band2 (by omega) (by omega)), chk_pos (band2 (by omega) (by omega)), Int.toNat_natCast, Int.toNat_natCast, List.take_of_length_le (by rw [List.length_drop]; exact Nat.le_refl _)]
  simp only [hj]
  unfold plainP
  rw [if_neg h0]
  by_cases h1 : (decodeL s).1 = 65533
  · have e1 : (((decodeL s).1 : Int) == 65533) = true := by rw [h1]; rfl
    rw [e1, cond_true]
    by_cases h2 : (decodeL s).2 = 1
    · rw [dtrue (show ((decodeL s).2 : Int) < 2 by omega), cond_true, if_pos ⟨h1, h2⟩]
    · rw [dfalse (show ¬ ((decodeL s).2 : Int) < 2 by omega), cond_false, dfalse (show ¬ ((decodeL s).1 : Int) < 32 by omega), cond_false, if_neg (fun h => h2 h.2), if_neg (by omega)]
  · have e1 : (((decodeL s).1 : Int) == 65533) = false := by rw [beq_eq_false_iff_ne]; omega
    rw [e1, cond_false, if_neg (fun h => h1 h.1)]
    by_cases h3 : (decodeL s).1 < 32
    · rw [dtrue (show ((decodeL s).1 : Int) < 32 by omega), cond_true, if_pos h3]
    · rw [dfalse (show ¬ ((decodeL s).1 : Int) < 32 by omega), cond_false, if_neg h3]

def hexv (b : UInt8) : Option Nat :=
  let n := b.toNat
  if 48 ≤ n ∧ n ≤ 57 then some (n - 48) else if 65 ≤ n ∧ n ≤ 70 then some (n - 55) else if 97 ≤ n ∧ n ≤ 102 then some (n - 87) else none
def hexN : Str → Nat → Option Nat
  | [], v => some v
  | b :: t, v => match hexv b with | some d => hexN t (16 * v + d) | none => none

def lowI (b : Int) : Int := IntKind.u8.wrap ((BitVec.ofInt IntKind.u8.bits b ||| BitVec.ofInt IntKind.u8.bits 32).toNat : Int)

def hexB (b : Nat) : Bool :=
  (!(decide (48 ≤ b) && decide (b ≤ 57)) || decide (IntKind.u8.wrap ((b : Int) - 48) = ((b - 48 : Nat) : Int))) &&
  (!(decide ((97 : Int) ≤ lowI b) && decide (lowI b ≤ 122)) || (!(decide (48 ≤ b) && decide (b ≤ 57)) && decide (b ≠ 95) && decide (IntKind.u8.wrap ((IntKind.u8.wrap (lowI b - 97)) + 10) = lowI b - 87) &&
    (!decide (lowI b - 87 < 16) || ((decide (65 ≤ b) && decide (b ≤ 70) && decide (lowI b - 87 = ((b - 55 : Nat) : Int))) || (decide (97 ≤ b) && decide (b ≤ 102) && decide (lowI b - 87 = ((b - 87 : Nat) : Int))))) &&
    (!decide (16 ≤ lowI b - 87) || (!(decide (65 ≤ b) && decide (b ≤ 70)) && !(decide (97 ≤ b) && decide (b ≤ 102)))))) &&
  ((decide ((97 : Int) ≤ lowI b) && decide (lowI b ≤ 122)) || (!(decide (65 ≤ b) && decide (b ≤ 70)) && !(decide (97 ≤ b) && decide (b ≤ 102))))
theorem hexB_all : ∀ b : Fin 256, hexB b.val = true := by decide +kernel
theorem hex_fact (b : Nat) (hb : b < 256) :
    ((48 ≤ b ∧ b ≤ 57) → IntKind.u8.wrap ((b : Int) - 48) = ((b - 48 : Nat) : Int)) ∧
    ((97 : Int) ≤ lowI b → lowI b ≤ 122 → ¬ (48 ≤ b ∧ b ≤ 57) ∧ b ≠ 95 ∧ IntKind.u8.wrap ((IntKind.u8.wrap (lowI b - 97)) + 10) = lowI b - 87 ∧
      (lowI b - 87 < 16 → ((65 ≤ b ∧ b ≤ 70) ∧ lowI b - 87 = ((b - 55 : Nat) : Int)) ∨ ((97 ≤ b ∧ b ≤ 102) ∧ lowI b - 87 = ((b - 87 : Nat) : Int))) ∧
      (16 ≤ lowI b - 87 → ¬ (65 ≤ b ∧ b ≤ 70) ∧ ¬ (97 ≤ b ∧ b ≤ 102))) ∧
    (¬ ((97 : Int) ≤ lowI b ∧ lowI b ≤ 122) → ¬ (65 ≤ b ∧ b ≤ 70) ∧ ¬ (97 ≤ b ∧ b ≤ 102)) := by
  have h := hexB_all ⟨b, hb⟩
  unfold hexB at h
  generalize lowI (b : Int) = l at *
  simp only [Bool.and_eq_true, Bool.or_eq_true, Bool.not_eq_true', Bool.and_eq_false_iff, decide_eq_true_eq, decide_eq_false_iff_not] at h
  obtain ⟨⟨h1, h2⟩, h3⟩ := h
  refine ⟨fun q => ?_, fun q1 q2 => ?_, fun q => ?_⟩
  · rcases h1 with h1 | h1
    · omega
    · exact h1
  · rcases h2 with h2 | ⟨⟨⟨⟨g1, g2⟩, g3⟩, g4⟩, g5⟩
    · omega
    · refine ⟨by omega, g2, g3, fun q => ?_, fun q => ?_⟩
      · rcases g4 with g4 | g4
        · omega
        · rcases g4 with ⟨⟨k1, k2⟩, k3⟩ | ⟨⟨k1, k2⟩, k3⟩
          · exact .inl ⟨⟨k1, k2⟩, k3⟩
          · exact .inr ⟨⟨k1, k2⟩, k3⟩
      · rcases g5 with g5 | ⟨k1, k2⟩
        · omega
        · exact ⟨by omega, by omega⟩
  · rcases h3 with h3 | ⟨k1, k2⟩
    · omega
    · exact ⟨by omega, by omega⟩

theorem hexv_lt {b : UInt8} {d : Nat} (h : hexv b = some d) : d < 16 := by
  unfold hexv at h
  simp only at h
  split at h
  · cases h; omega
  · split at h
    · cases h; omega
    · split at h
      · cases h; omega
      · cases h

theorem u64w {n : Int} (h0 : 0 ≤ n) (h : n ≤ 18446744073709551615) : IntKind.u64.wrap n = n := by
  simp only [IntKind.wrap, IntKind.bits, IntKind.signed]
  simp
  omega

theorem uint_round {R : Type} {s x22 : Str} {i v : Nat} (hi : i < s.length) (hs : s.length ≤ 1000) (hv : v < 4096) (rec' : Int → Bool → Str → Int → Int → Bool → Int → Nat → Int → Int → (List Int) → Option R) (e0 : Str → Bool → Int → Option R) (e1 e2 : Int → Str → Bool → Int → Option R) (e3 : Int → Str → Bool → Option R) :
    internal_strconv_ParseUint_36_0_B internal_strconv_lower rec' 16 false x22 1152921504606846976 65535 false (v : Int) s.length (s.length : Int) (i : Int) (bytesN s) e0 e1 e2 e3 =
      match hexv (s[i]) with
      | some d => rec' 16 false x22 1152921504606846976 65535 false ((16 * v + d : Nat) : Int) s.length (s.length : Int) ((i + 1 : Nat) : Int) (bytesN s)
      | none => e1 0 x22 false (v : Int) := by
  unfold internal_strconv_ParseUint_36_0_B
  have hlow : ∀ (n : Int) (f : Int → Option R), internal_strconv_lower n f = f (lowI n) := fun _ _ => rfl
  have hget : (bytesN s).getD (i : Int).toNat (Ty.dflt (.int .u8)) = (s[i].toNat : Int) := by
    rw [Int.toNat_natCast]
    show (s.map fun b => (b.toNat : Int)).getD i _ = _
    simp [List.getD, hi]
    rfl
  rw [dtrue (show (i : Int) < (s.length : Int) by omega), cond_true, chk_pos (by rw [dtrue (show (0 : Int) ≤ (i : Int) by omega)]; rfl),
    chk_pos (dtrue (by rw [Int.toNat_natCast, zs_bytesN, zs_len]; exact hi))]
  simp only [hget, hlow]
  obtain ⟨f1, f2, f3⟩ := hex_fact s[i].toNat (UInt8.toNat_lt _)
  have hb := UInt8.toNat_lt s[i]
  generalize hbn : s[i].toNat = b at *
  have hw16 : IntKind.u8.wrap 16 = 16 := by decide
  have hw64 : IntKind.u64.wrap 16 = 16 := by decide
  have hi1 : IntKind.i64.wrap ((i : Int) + 1) = ((i + 1 : Nat) : Int) := by rw [wrap_id (by omega) (by omega)]; omega
  -- a digit's value, if it is below 16
  have fit : ∀ d : Nat, d < 16 → ∀ z : Int, z = (d : Int) → (bif (decide (z ≥ (IntKind.u8.wrap 16))) then (e1 0 x22 false (v : Int)) else (bif (decide ((v : Int) ≥ 1152921504606846976)) then (e2 65535 x22 false (v : Int)) else (bif (decide ((IntKind.u64.wrap ((IntKind.u64.wrap ((v : Int) * (IntKind.u64.wrap 16))) + (IntKind.u64.wrap z))) < (IntKind.u64.wrap ((v : Int) * (IntKind.u64.wrap 16))))) then (e2 65535 x22 false (IntKind.u64.wrap ((v : Int) * (IntKind.u64.wrap 16)))) else (bif (decide ((IntKind.u64.wrap ((IntKind.u64.wrap ((v : Int) * (IntKind.u64.wrap 16))) + (IntKind.u64.wrap z))) > 65535)) then (e2 65535 x22 false (IntKind.u64.wrap ((v : Int) * (IntKind.u64.wrap 16)))) else (rec' 16 false x22 1152921504606846976 65535 false (IntKind.u64.wrap ((IntKind.u64.wrap ((v : Int) * (IntKind.u64.wrap 16))) + (IntKind.u64.wrap z))) s.length (s.length : Int) (IntKind.i64.wrap ((i : Int) + 1)) (bytesN s)))))) =
      rec' 16 false x22 1152921504606846976 65535 false ((16 * v + d : Nat) : Int) s.length (s.length : Int) ((i + 1 : Nat) : Int) (bytesN s) := by
    intro d hd z hz
    subst hz
    have k1 : IntKind.u64.wrap ((v : Int) * 16) = (v : Int) * 16 := u64w (by omega) (by omega)
    have k2 : IntKind.u64.wrap (d : Int) = d := u64w (by omega) (by omega)
    have k3 : IntKind.u64.wrap ((v : Int) * 16 + (d : Int)) = (v : Int) * 16 + (d : Int) := u64w (by omega) (by omega)
    rw [hw16, hw64, k1, k2, k3, hi1, dfalse (show ¬ (d : Int) ≥ 16 by omega), cond_false, dfalse (show ¬ (v : Int) ≥ 1152921504606846976 by omega), cond_false, dfalse (show ¬ (v : Int) * 16 + (d : Int) < (v : Int) * 16 by omega), cond_false,
      dfalse (show ¬ (v : Int) * 16 + (d : Int) > 65535 by omega), cond_false]
    have : (v : Int) * 16 + (d : Int) = ((16 * v + d : Nat) : Int) := by omega
    rw [this]
  rw [cond_false, Bool.cond_self]
  unfold hexv
  simp only [hbn]
  by_cases h1 : 48 ≤ b ∧ b ≤ 57
  · rw [dtrue (show (48 : Int) ≤ (b : Int) by omega), cond_true, dtrue (show (b : Int) ≤ 57 by omega), cond_true, if_pos h1]
    exact fit (b - 48) (by omega) _ (f1 h1)
  · rw [if_neg h1]
    have h48 : ∀ x z : Option R, (bif (decide ((48 : Int) ≤ (b : Int))) then (bif (decide ((b : Int) ≤ (57 : Int))) then x else z) else z) = z := by
      intro x z
      by_cases h : (48 : Int) ≤ (b : Int)
      · rw [dtrue h, cond_true, dfalse (show ¬ (b : Int) ≤ 57 by omega), cond_false]
      · rw [dfalse h, cond_false]
    simp only [cond_false]
    rw [h48]
    by_cases h2 : (97 : Int) ≤ lowI b
    · rw [dtrue h2, cond_true]
      by_cases h3 : lowI b ≤ 122
      · rw [dtrue h3, cond_true]
        obtain ⟨_, _, g1, g2, g3⟩ := f2 h2 h3
        rw [g1]
        by_cases h4 : lowI b - 87 < 16
        · rcases g2 h4 with ⟨q1, q2⟩ | ⟨q1, q2⟩
          · rw [if_pos q1]
            exact fit (b - 55) (by omega) _ q2
          · rw [if_neg (by omega), if_pos q1]
            exact fit (b - 87) (by omega) _ q2
        · obtain ⟨q1, q2⟩ := g3 (by omega)
          rw [hw16, dtrue (show lowI b - 87 ≥ 16 by omega), cond_true, if_neg q1, if_neg q2]
      · rw [dfalse h3, cond_false]
        obtain ⟨q1, q2⟩ := f3 (by omega)
        rw [if_neg q1, if_neg q2]
    · rw [dfalse h2, cond_false]
      obtain ⟨q1, q2⟩ := f3 (by omega)
      rw [if_neg q1, if_neg q2]

theorem hexN_step (s : Str) (i v : Nat) (hi : i < s.length) : hexN (s.drop i) v = match hexv s[i] with | some d => hexN (s.drop (i + 1)) (16 * v + d) | none => none := by
  rw [List.drop_eq_getElem_cons hi]
  rfl

theorem uint_loop {R : Type} {s x22 : Str} (hs : s.length ≤ 4) (e0 : Str → Bool → Int → Option R) (e1 e2 : Int → Str → Bool → Int → Option R) (e3 : Int → Str → Bool → Option R) : ∀ (n i v : Nat), s.length - i < n → i ≤ s.length → v < 16 ^ i →
    (match hexN (s.drop i) v with
     | some u => internal_strconv_ParseUint_36_0_L n 16 false x22 1152921504606846976 65535 false (v : Int) s.length (s.length : Int) (i : Int) (bytesN s) e0 e1 e2 e3 = e0 x22 false (u : Int)
     | none => ∃ w, internal_strconv_ParseUint_36_0_L n 16 false x22 1152921504606846976 65535 false (v : Int) s.length (s.length : Int) (i : Int) (bytesN s) e0 e1 e2 e3 = e1 0 x22 false w) := by
  intro n
  induction n with
  | zero => intro i v h; omega
  | succ n ih =>
    intro i v h hi hv
    by_cases hlt : i < s.length
    · have hv2 : v < 4096 := by
        have : 16 ^ i ≤ 16 ^ 3 := Nat.pow_le_pow_right (by omega) (by omega)
        have e : (16 : Nat) ^ 3 = 4096 := rfl
        omega
      have hr := uint_round (R := R) (x22 := x22) hlt (by omega) hv2 (fun x0' x1' x2' x3' x4' x5' x6' x7' x8' x9' x10' => internal_strconv_ParseUint_36_0_L n x0' x1' x2' x3' x4' x5' x6' x7' x8' x9' x10' e0 e1 e2 e3) e0 e1 e2 e3
      have hL : internal_strconv_ParseUint_36_0_L (n + 1) 16 false x22 1152921504606846976 65535 false (v : Int) s.length (s.length : Int) (i : Int) (bytesN s) e0 e1 e2 e3 =
        internal_strconv_ParseUint_36_0_B internal_strconv_lower (fun x0' x1' x2' x3' x4' x5' x6' x7' x8' x9' x10' => internal_strconv_ParseUint_36_0_L n x0' x1' x2' x3' x4' x5' x6' x7' x8' x9' x10' e0 e1 e2 e3) 16 false x22 1152921504606846976 65535 false (v : Int) s.length (s.length : Int) (i : Int) (bytesN s) e0 e1 e2 e3 := rfl
      rw [hL, hr, hexN_step s i v hlt]
      cases hx : hexv s[i] with
      | none => exact ⟨_, rfl⟩
      | some d =>
        have hd := hexv_lt hx
        have : (16 : Nat) ^ (i + 1) = 16 ^ i * 16 := Nat.pow_succ ..
        exact ih (i + 1) (16 * v + d) (by omega) (by omega) (by omega)
    · have e : s.drop i = [] := List.drop_eq_nil_of_le (by omega)
      rw [e]
      simp only [hexN]
      show internal_strconv_ParseUint_36_0_B internal_strconv_lower _ 16 false x22 1152921504606846976 65535 false (v : Int) s.length (s.length : Int) (i : Int) (bytesN s) e0 e1 e2 e3 = _
      unfold internal_strconv_ParseUint_36_0_B
      rw [dfalse (show ¬ (i : Int) < (s.length : Int) by omega), cond_false]

end Go.Proofs.YtmlkkgfenfdndaaGreatDoor

set_option linter.unusedVariables false
set_option maxRecDepth 100000
namespace Go.Proofs.YtmlkkgfenfdndaaGreatDoor
open Go Go.Yard Go.Lib

theorem parse4 {R : Type} {s : Str} (hs : s.length = 4) (k0 k1 : Int → Option R) : strconv_ParseUint s 16 16 k0 k1 = match hexN s 0 with | some u => k1 (u : Int) | none => k0 0 := by
  show strconv_ParseUint_X internal_strconv_ParseUint s 16 16 k0 k1 = _
  unfold strconv_ParseUint_X
  show internal_strconv_ParseUint_X internal_strconv_lower internal_strconv_underscoreOK internal_strconv_ParseUint_36_0_L s 16 16 _ _ _ _ _ = _
  unfold internal_strconv_ParseUint_X
  have h1 : (s == ([] : Str)) = false := by rw [beq_eq_false_iff_ne]; rintro rfl; simp at hs
  rw [h1, cond_false]
  have c1 : decide ((2 : Int) ≤ 16) = true := by decide
  have c2 : decide ((16 : Int) ≤ 36) = true := by decide
  have c3 : ((16 : Int) == 0) = false := by decide
  have c4 : decide ((16 : Int) < 0) = false := by decide
  have c5 : decide ((16 : Int) > 64) = false := by decide
  have c6 : ((16 : Int) == 10) = false := by decide
  have c7 : ((16 : Int) == 16) = true := by decide
  have c8 : decide ((0 : Int) ≤ IntKind.u64.wrap 16) = true := by decide
  have c9 : (IntKind.u64.wrap ((IntKind.u64.wrap (1 * 2 ^ (min ((IntKind.u64.wrap 16).toNat) IntKind.u64.bits))) - 1)) = 65535 := by decide +kernel
  dsimp only
  rw [c1, cond_true, c2, cond_true, c3, cond_false, c4, cond_false, c5, cond_false, c6, cond_false, c7, cond_true]
  rw [c8, chk_pos rfl, c9]
  have hb : decide (s.length ≤ 281474976710656) = true := dtrue (by omega)
  have key := fun (n : Nat) (hn : 4 < n) (e0 : Str → Bool → Int → Option R) (e1 e2 : Int → Str → Bool → Int → Option R) (e3 : Int → Str → Bool → Option R) => uint_loop (R := R) (s := s) (x22 := s) (by omega) e0 e1 e2 e3 n 0 0 (by omega) (by omega) (by omega)
  have z0 : (((0 : Nat) : Int)) = 0 := rfl
  simp only [List.drop_zero, z0] at key
  cases hx : hexN s 0 with
  | some u =>
    simp only [hx] at key
    rw [key _ (by omega)]
    rfl
  | none =>
    simp only [hx] at key
    generalize hF : (Int.natAbs 16 + List.length s + Int.natAbs 1152921504606846976 + Int.natAbs 65535 + Int.natAbs 0 + Int.natAbs (s.length : Int) + Int.natAbs 0 + List.length (bytesN s) + 64) = F at *
    obtain ⟨w, hw⟩ := key F (by rw [← hF]; omega) _ _ _ _
    rw [hw, chk_pos (by rfl), hb, chk_pos rfl]
end Go.Proofs.YtmlkkgfenfdndaaGreatDoor

set_option linter.unusedVariables false
set_option maxRecDepth 100000
namespace Go.Proofs.YtmlkkgfenfdndaaGreatDoor
open Go Go.Yard Go.Lib

theorem hexN_bound : ∀ (l : Str) (v u : Nat), hexN l v = some u → u < (v + 1) * 16 ^ l.length
  | [], v, u, h => by cases h; simp
  | b :: t, v, u, h => by
    simp only [hexN] at h
    cases hx : hexv b with
    | none => rw [hx] at h; cases h
    | some d =>
      rw [hx] at h
      have h1 := hexN_bound t _ _ h
      have hd := hexv_lt hx
      have h2 : (16 * v + d + 1) * 16 ^ t.length ≤ ((v + 1) * 16) * 16 ^ t.length := Nat.mul_le_mul_right _ (by omega)
      rw [List.length_cons, Nat.pow_succ]
      have h3 : (v + 1) * 16 * 16 ^ t.length = (v + 1) * (16 ^ t.length * 16) := by rw [Nat.mul_assoc, Nat.mul_comm 16]
      omega
theorem hexN_all : ∀ (l : Str) (v u : Nat), hexN l v = some u → ∀ b ∈ l, (hexv b).isSome = true
  | [], v, u, h => by simp
  | b :: t, v, u, h => by
    simp only [hexN] at h
    cases hx : hexv b with
    | none => rw [hx] at h; cases h
    | some d =>
      rw [hx] at h
      intro c hc
      rcases List.mem_cons.1 hc with rfl | hc
      · rw [hx]; rfl
      · exact hexN_all t _ _ h c hc
theorem hexv_asc {b : UInt8} (h : (hexv b).isSome = true) : b.toNat < 128 ∧ b.toNat ≠ 43 ∧ b.toNat ≠ 45 ∧ b.toNat ≠ 95 := by
  unfold hexv at h
  simp only at h
  revert h
  (repeat' split) <;> intro h <;> first | omega | cases h

theorem hasAny_none (cs : Str) : ∀ s : Str, (∀ b ∈ s, cs.contains b = false) → hasAny s cs = false := by
  have key : ∀ s : Str, (∀ b ∈ s, cs.contains b = false) → indexAny s cs = -1 := by
    intro s
    induction s with
    | nil => intro _; rfl
    | cons b s ih =>
      intro h
      unfold indexAny
      rw [h b (by simp)]
      have := ih fun x hx => h x (by simp [hx])
      simp [this]
  intro s h
  unfold hasAny containsAny
  rw [key s h]
  rfl

def unitP (s : Str) : Option (Nat × Str) := if s.length < 4 then none else match hexN (s.take 4) 0 with | some v => some (v, s.drop 4) | none => none
theorem unitP_lt {s r : Str} {v : Nat} (h : unitP s = some (v, r)) : v < 65536 ∧ 4 ≤ s.length ∧ r = s.drop 4 := by
  unfold unitP at h
  split at h
  · cases h
  · rename_i hl
    split at h
    · rename_i u hu
      cases h
      have := hexN_bound _ _ _ hu
      rw [List.length_take, Nat.min_eq_left (by omega)] at this
      exact ⟨by omega, by omega, rfl⟩
    · cases h

theorem wrap32s {n : Nat} (h : n < 1114112) : IntKind.i32.wrap (n : Int) = (n : Int) := wrap32_id (by omega) (by omega)

theorem unit_ok {R : Type} (s : Str) (hs : s.length ≤ 9000000000000000000) (k : Int → Str → Option R) :
    quote_reader_unit_abbd s k = match unitP s with | some (v, r) => k (v : Int) r | none => k (-1) s := by
  show quote_reader_unit_abbd_X strconv_ParseUint s k = _
  unfold quote_reader_unit_abbd_X
  by_cases hl : s.length < 4
  · rw [dtrue (show (s.length : Int) < 4 by omega), cond_true]
    unfold unitP
    rw [if_pos hl]
  · rw [dfalse (show ¬ (s.length : Int) < 4 by omega), cond_false, chk_pos (dtrue (by omega))]
    have h4 : (s.drop 0).take (4 - 0) = s.take 4 := rfl
    rw [h4, parse4 (by rw [List.length_take]; omega)]
    unfold unitP
    rw [if_neg hl]
    cases hu : hexN (s.take 4) 0 with
    | none => rfl
    | some v =>
      have hall := hexN_all _ _ _ hu
      have hasc : isAsc (s.take 4) = true := List.all_eq_true.2 fun b hb => dtrue (hexv_asc (hall b hb)).1
      have hno : hasAny (s.take 4) [43, 45, 95] = false := hasAny_none _ _ fun b hb => by
        obtain ⟨_, g1, g2, g3⟩ := hexv_asc (hall b hb)
        have e : ∀ x : UInt8, b.toNat ≠ x.toNat → (b == x) = false := fun x hx => by
          rw [beq_eq_false_iff_ne]; rintro rfl; exact hx rfl
        simp only [List.contains_cons, List.contains_nil, e 43 g1, e 45 g2, e 95 g3]
        rfl
      have hv := (unitP_lt (s := s) (r := s.drop 4) (v := v) (by unfold unitP; rw [if_neg hl, hu])).1
      have hb2 : isAsc ([43, 45, 95] : Str) = true := by decide
      simp only
      rw [chk_pos (by rw [hasc, hb2, dtrue (show (s.take 4).length < 4294967281 by rw [List.length_take]; omega)]; rfl), hno, cond_false, chk_pos (by rw [dtrue (show (0 : Int) ≤ (s.length : Int) by omega), dtrue (show (s.length : Int) ≤ s.length by omega)]; rfl), chk_pos (dtrue (by omega))]
      rw [wrap32s (by omega), Int.toNat_natCast, List.take_of_length_le (by rw [List.length_drop]; exact Nat.le_refl _)]

def longP (s : Str) : Option (Nat × Str) :=
  match unitP s with
  | none => none
  | some (v, r) =>
    if v < 55296 ∨ 57344 ≤ v then some (v, r) else if 56320 ≤ v then none
    else if ([92, 117] : Str).isPrefixOf r then
      match unitP (r.drop 2) with
      | none => none
      | some (w, r2) => if 56320 ≤ w ∧ w < 57344 then some (65536 + (v - 55296) * 1024 + (w - 56320), r2) else none
    else none

theorem shl10 (n : Nat) (h : n < 1024) : IntKind.i32.wrap ((n : Int) * 2 ^ (min 10 IntKind.i32.bits)) = ((n * 1024 : Nat) : Int) := by
  have e : (n : Int) * 2 ^ (min 10 IntKind.i32.bits) = ((n * 1024 : Nat) : Int) := by
    show (n : Int) * 2 ^ 10 = _
    omega
  rw [e, wrap32s (by omega)]

theorem long_ok {R : Type} (s : Str) (hs : s.length ≤ 9000000000000000000) (k : Int → Str → Option R) :
    match longP s with | some (c, r) => quote_reader_long_abbd s k = k (c : Int) r | none => ∃ r, quote_reader_long_abbd s k = k (-1) r := by
  have e0 : quote_reader_long_abbd s k = quote_reader_long_abbd_X quote_reader_skip_e74a quote_reader_unit_abbd s k := rfl
  rw [e0]
  unfold quote_reader_long_abbd_X
  rw [unit_ok s hs]
  unfold longP
  cases hu : unitP s with
  | none =>
    simp only
    exact ⟨s, by rw [dtrue (show (-1 : Int) < 55296 by omega), cond_true]⟩
  | some p =>
    obtain ⟨v, r⟩ := p
    obtain ⟨hv, hl, hr⟩ := unitP_lt hu
    have hrl : r.length ≤ 9000000000000000000 := by rw [hr, List.length_drop]; omega
    simp only
    by_cases h1 : v < 55296
    · rw [if_pos (.inl h1), dtrue (show (v : Int) < 55296 by omega)]
      simp only [cond_true]
    rw [dfalse (show ¬ (v : Int) < 55296 by omega), cond_false]
    by_cases h2 : 57344 ≤ v
    · rw [if_pos (.inr h2), dtrue (show (v : Int) ≥ 57344 by omega)]
      simp only [cond_true]
    rw [if_neg (by omega), dfalse (show ¬ (v : Int) ≥ 57344 by omega), cond_false]
    by_cases h3 : 56320 ≤ v
    · rw [if_pos h3]
      exact ⟨r, by rw [dtrue (show (v : Int) ≥ 56320 by omega), cond_true]⟩
    rw [if_neg h3, dfalse (show ¬ (v : Int) ≥ 56320 by omega), cond_false, skip_ok _ _ (by simp) hrl]
    cases hp : ([92, 117] : Str).isPrefixOf r with
    | false =>
      simp only [Bool.false_eq_true, if_false]
      exact ⟨r, rfl⟩
    | true =>
      simp only [if_true]
      have hrl2 : (r.drop 2).length ≤ 9000000000000000000 := by rw [List.length_drop]; omega
      have e2 : r.drop ([92, 117] : Str).length = r.drop 2 := rfl
      rw [Bool.not_true, cond_false, e2, unit_ok _ hrl2]
      cases hu2 : unitP (r.drop 2) with
      | none =>
        simp only
        exact ⟨r.drop 2, by rw [dtrue (show (-1 : Int) < 56320 by omega), cond_true]⟩
      | some q =>
        obtain ⟨w, r2⟩ := q
        obtain ⟨hw, hl2, hr2⟩ := unitP_lt hu2
        simp only
        by_cases h4 : 56320 ≤ w ∧ w < 57344
        · rw [if_pos h4]
          simp only
          rw [dfalse (show ¬ (w : Int) < 56320 by omega), cond_false, dfalse (show ¬ (w : Int) ≥ 57344 by omega), cond_false]
          have k1 : IntKind.i32.wrap ((v : Int) - 55296) = ((v - 55296 : Nat) : Int) := by
            have : (v : Int) - 55296 = ((v - 55296 : Nat) : Int) := by omega
            rw [this, wrap32s (by omega)]
          rw [k1, shl10 _ (by omega)]
          have k2 : IntKind.i32.wrap (65536 + (((v - 55296) * 1024 : Nat) : Int)) = ((65536 + (v - 55296) * 1024 : Nat) : Int) := by
            have : 65536 + (((v - 55296) * 1024 : Nat) : Int) = ((65536 + (v - 55296) * 1024 : Nat) : Int) := by omega
            rw [this, wrap32s (by omega)]
          have k3 : IntKind.i32.wrap (((65536 + (v - 55296) * 1024 : Nat) : Int) + (w : Int)) = ((65536 + (v - 55296) * 1024 + w : Nat) : Int) := by
            have : ((65536 + (v - 55296) * 1024 : Nat) : Int) + (w : Int) = ((65536 + (v - 55296) * 1024 + w : Nat) : Int) := by omega
            rw [this]
            simp only [IntKind.wrap, IntKind.bits, IntKind.signed]
            simp
            omega
          have k4 : IntKind.i32.wrap (((65536 + (v - 55296) * 1024 + w : Nat) : Int) - 56320) = ((65536 + (v - 55296) * 1024 + (w - 56320) : Nat) : Int) := by
            have : ((65536 + (v - 55296) * 1024 + w : Nat) : Int) - 56320 = ((65536 + (v - 55296) * 1024 + (w - 56320) : Nat) : Int) := by omega
            rw [this, wrap32s (by omega)]
          rw [k2, k3, k4]
        · rw [if_neg h4]
          refine ⟨r2, ?_⟩
          by_cases h5 : w < 56320
          · rw [dtrue (show (w : Int) < 56320 by omega), cond_true]
          · rw [dfalse (show ¬ (w : Int) < 56320 by omega), cond_false, dtrue (show (w : Int) ≥ 57344 by omega), cond_true]

def escP : Str → Option (Nat × Str)
  | [] => none
  | b :: t =>
    if b.toNat = 34 ∨ b.toNat = 92 ∨ b.toNat = 47 then some (b.toNat, t) else if b.toNat = 98 then some (8, t) else if b.toNat = 102 then some (12, t) else if b.toNat = 110 then some (10, t)
    else if b.toNat = 114 then some (13, t) else if b.toNat = 116 then some (9, t) else if b.toNat = 117 then longP t else none

theorem esc_ok {R : Type} (s : Str) (hs : s.length ≤ 9000000000000000000) (k : Int → Str → Option R) :
    match escP s with | some (c, r) => quote_reader_escaped_abbd s k = k (c : Int) r | none => ∃ r, quote_reader_escaped_abbd s k = k (-1) r := by
  have e0 : quote_reader_escaped_abbd s k = quote_reader_escaped_abbd_X quote_reader_long_abbd s k := rfl
  rw [e0]
  unfold quote_reader_escaped_abbd_X
  cases s with
  | nil => exact ⟨[], rfl⟩
  | cons b t =>
    have hne : ((b :: t : Str) == ([] : Str)) = false := rfl
    simp only [List.length_cons] at hs
    have ht : (((b :: t : Str).drop 1).take (((b :: t : Str).length : Int).toNat - 1)) = t := by
      rw [Int.toNat_natCast, List.drop_succ_cons, List.drop_zero, List.length_cons, Nat.add_sub_cancel, List.take_length]
    have hg : ((b :: t : Str).getD 0 0).toNat = b.toNat := rfl
    rw [hne, cond_false, chk_pos (dtrue (show (0 : Int) < ((b :: t : Str).length : Int) by simp only [List.length_cons]; omega)),
      chk_pos (by rw [dtrue (show (0 : Int) ≤ ((b :: t : Str).length : Int) by omega), dtrue (show ((b :: t : Str).length : Int) ≤ (b :: t : Str).length by omega)]; rfl),
      chk_pos (dtrue (show (1 : Int) ≤ ((b :: t : Str).length : Int) by simp only [List.length_cons]; omega))]
    simp only [ht, hg]
    have hb := UInt8.toNat_lt b
    simp only [escP]
    generalize b.toNat = n at *
    have q : ∀ m : Nat, ((n : Int) == (m : Int)) = decide (n = m) := fun m => by
      by_cases h : n = m
      · subst h; simp
      · have : ¬ ((n : Int) = (m : Int)) := by omega
        simp [h, this]
    have q34 : ((n : Int) == 34) = decide (n = 34) := q 34
    have q92 : ((n : Int) == 92) = decide (n = 92) := q 92
    have q47 : ((n : Int) == 47) = decide (n = 47) := q 47
    have q98 : ((n : Int) == 98) = decide (n = 98) := q 98
    have q102 : ((n : Int) == 102) = decide (n = 102) := q 102
    have q110 : ((n : Int) == 110) = decide (n = 110) := q 110
    have q114 : ((n : Int) == 114) = decide (n = 114) := q 114
    have q116 : ((n : Int) == 116) = decide (n = 116) := q 116
    have q117 : ((n : Int) == 117) = decide (n = 117) := q 117
    simp only [q34, q92, q47, q98, q102, q110, q114, q116, q117, wrap32s (show n < 1114112 by omega)]
    by_cases h34 : n = 34
    · subst h34; simp
    by_cases h92 : n = 92
    · subst h92; simp
    by_cases h47 : n = 47
    · subst h47; simp
    simp only [h34, h92, h47, decide_false, cond_false, or_self, if_false]
    by_cases h98 : n = 98
    · subst h98; simp
    by_cases h102 : n = 102
    · subst h102; simp
    by_cases h110 : n = 110
    · subst h110; simp
    by_cases h114 : n = 114
    · subst h114; simp
    by_cases h116 : n = 116
    · subst h116; simp
    by_cases h117 : n = 117
    · subst h117
      have := long_ok (R := R) t (by omega) k
      simp only [decide_true, decide_false, cond_true, cond_false, if_true, show ¬ ((117 : Nat) = 98) by decide, show ¬ ((117 : Nat) = 102) by decide, show ¬ ((117 : Nat) = 110) by decide, show ¬ ((117 : Nat) = 114) by decide, show ¬ ((117 : Nat) = 116) by decide, if_false]
      exact this
    simp only [h98, h102, h110, h114, h116, h117, decide_false, cond_false, if_false]
    exact ⟨t, rfl⟩
end Go.Proofs.YtmlkkgfenfdndaaGreatDoor

set_option linter.unusedVariables false
set_option maxRecDepth 100000
namespace Go.Proofs.YtmlkkgfenfdndaaGreatDoor
open Go Go.Yard Go.Lib

def hexS : Str := [48, 49, 50, 51, 52, 53, 54, 55, 56, 57, 97, 98, 99, 100, 101, 102]
def shortC (c : Nat) : Nat := if c = 34 ∨ c = 92 then c else if c = 8 then 98 else if c = 12 then 102 else if c = 10 then 110 else if c = 13 then 114 else if c = 9 then 116 else 0
def qc (c : Nat) : Str := if shortC c ≠ 0 then [92, UInt8.ofNat (shortC c)] else if c < 32 then [92, 117, 48, 48, hexS.getD (c / 16) 0, hexS.getD (c % 16) 0] else enc c
def qcL (rs : List Nat) : Str := rs.flatMap qc
def qt (rs : List Nat) : Str := 34 :: (qcL rs ++ [34])

theorem shortC_lt (c : Nat) : shortC c < 256 := by unfold shortC; (repeat' split) <;> omega
theorem short_ok {R : Type} (c : Nat) (k : Int → Option R) : quote_short (c : Int) k = k (shortC c : Int) := by
  show quote_short_X (c : Int) k = _
  unfold quote_short_X shortC
  have b : ∀ n : Nat, ((c : Int) == (n : Int)) = decide (c = n) := fun n => by
    by_cases h : c = n
    · subst h; simp
    · have : ¬ ((c : Int) = (n : Int)) := by omega
      simp [h, this]
  have b34 : ((c : Int) == 34) = decide (c = 34) := b 34
  have b92 : ((c : Int) == 92) = decide (c = 92) := b 92
  have b8 : ((c : Int) == 8) = decide (c = 8) := b 8
  have b12 : ((c : Int) == 12) = decide (c = 12) := b 12
  have b10 : ((c : Int) == 10) = decide (c = 10) := b 10
  have b13 : ((c : Int) == 13) = decide (c = 13) := b 13
  have b9 : ((c : Int) == 9) = decide (c = 9) := b 9
  rw [b34, b92, b8, b12, b10, b13, b9]
  have w : IntKind.u8.wrap (c : Int) = ((c % 256 : Nat) : Int) := wrap8 c
  by_cases h34 : c = 34
  · subst h34; rfl
  by_cases h92 : c = 92
  · subst h92; rfl
  simp only [h34, h92, decide_false, cond_false, or_self, if_false]
  by_cases h8 : c = 8
  · subst h8; rfl
  by_cases h12 : c = 12
  · subst h12; rfl
  by_cases h10 : c = 10
  · subst h10; rfl
  by_cases h13 : c = 13
  · subst h13; rfl
  by_cases h9 : c = 9
  · subst h9; rfl
  simp [h8, h12, h10, h13, h9]

theorem runeAt_drop (s : Str) (pos : Nat) : runeAt s pos = decodeL (s.drop pos) := by
  unfold runeAt
  exact (decodeL_drop ⟨s.toArray⟩ pos).symm

theorem enc_head (rs : List Nat) (c : Nat) (t : List Nat) : encL (rs ++ c :: t) = encL rs ++ (enc c ++ encL t) := by simp [encL]

theorem hexdig : ∀ c : Fin 32, (Int.fdiv (c.val : Int) (2 ^ (min 4 IntKind.i32.bits))) = ((c.val / 16 : Nat) : Int) ∧ IntKind.i32.wrap ((BitVec.ofInt IntKind.i32.bits (c.val : Int) &&& BitVec.ofInt IntKind.i32.bits 15).toNat : Int) = ((c.val % 16 : Nat) : Int) := by decide +kernel

theorem qc_len {c : Nat} (hv : vr c) : (qc c).length ≤ 6 := by
  unfold qc
  split
  · simp
  · split
    · simp
    · have := enc_len hv; omega

theorem quote_round {R : Type} {x : Str} {pos c : Nat} (hp : pos < x.length) {t : Str} (hd : x.drop pos = enc c ++ t) (hv : vr c) (o : Str) (ho : o.length ≤ 90000000000) (rec' : List Int → Str → Nat → Option R) (e0 : List Int → Option R) :
    quote_Quote_6_0_B strings_Builder_WriteByte_4b84 quote_short strings_Builder_WriteString_df1e strings_Builder_WriteRune_dc6e rec' (zs o) x pos e0 = rec' (zs (o ++ qc c)) x (pos + (enc c).length) := by
  unfold quote_Quote_6_0_B
  have hr : runeAt x pos = (c, (enc c).length) := by rw [runeAt_drop, hd, dec_enc hv]
  rw [hr, dtrue hp, cond_true]
  simp only
  rw [short_ok]
  have hlim : ∀ z : Str, z.length ≤ 10 → Lim (o ++ z) := fun z hz => by unfold Lim; rw [List.length_append]; omega
  have hlim0 : Lim o := by unfold Lim; omega
  by_cases hs : shortC c ≠ 0
  · have e : ((shortC c : Int) != 0) = true := by
      exact bne_iff_ne.2 (by omega)
    rw [e, cond_true]
    have h92 : (92 : Int) = ((92 : UInt8).toNat : Int) := rfl
    rw [h92, wb _ o hlim0]
    have h2 : (shortC c : Int) = ((UInt8.ofNat (shortC c)).toNat : Int) := by rw [u8_nat _ (shortC_lt c)]
    rw [h2, wb _ _ (hlim [92] (by simp))]
    have : qc c = [92, UInt8.ofNat (shortC c)] := by unfold qc; rw [if_pos hs]
    rw [this, List.append_assoc]
    rfl
  · have hs0 : shortC c = 0 := by omega
    have e : ((shortC c : Int) != 0) = false := by rw [hs0]; rfl
    rw [e, cond_false]
    by_cases h32 : c < 32
    · rw [dtrue (show (c : Int) < 32 by omega), cond_true, ws _ o (by simp) hlim0]
      obtain ⟨k1, k2⟩ := hexdig ⟨c, h32⟩
      simp only at k1 k2
      rw [k1, k2, chk_pos (by rw [dtrue (by omega), dtrue (by omega)]; rfl)]
      rw [Int.toNat_natCast, Int.toNat_natCast, wb _ _ (hlim [92, 117, 48, 48] (by simp)), chk_pos (by rw [dtrue (by omega), dtrue (by omega)]; rfl)]
      rw [List.append_assoc o, wb _ _ (hlim _ (by simp))]
      have : qc c = [92, 117, 48, 48, hexS.getD (c / 16) 0, hexS.getD (c % 16) 0] := by unfold qc; rw [if_neg hs, if_pos h32]
      rw [this, List.append_assoc o]
      rfl
    · rw [dfalse (show ¬ (c : Int) < 32 by omega), cond_false]
      obtain ⟨n, hn⟩ := wr hv o hlim0 (fun y14 y15 => rec' y15 x (pos + (enc c).length))
      rw [hn]
      have : qc c = enc c := by unfold qc; rw [if_neg hs, if_neg h32]
      rw [this]

theorem quote_loop {R : Type} (rs : List Nat) : ∀ (n : Nat) (done : List Nat) (o : Str), rs.length < n → (∀ c ∈ rs, vr c) → (∀ c ∈ done, vr c) → o.length + 6 * rs.length ≤ 80000000000 → ∀ e0 : List Int → Option R,
    quote_Quote_6_0_L n (zs o) (encL (done ++ rs)) (encL done).length e0 = e0 (zs (o ++ qcL rs)) := by
  induction rs with
  | nil =>
    intro n done o hn _ _ _ e0
    obtain ⟨m, rfl⟩ : ∃ m, n = m + 1 := ⟨n - 1, by simp at hn; omega⟩
    show quote_Quote_6_0_B strings_Builder_WriteByte_4b84 quote_short strings_Builder_WriteString_df1e strings_Builder_WriteRune_dc6e _ (zs o) (encL (done ++ [])) (encL done).length e0 = _
    unfold quote_Quote_6_0_B
    rw [List.append_nil, dfalse (Nat.lt_irrefl _), cond_false]
    simp [qcL]
  | cons c rs ih =>
    intro n done o hn hr hd hl e0
    obtain ⟨m, rfl⟩ : ∃ m, n = m + 1 := ⟨n - 1, by simp at hn; omega⟩
    have hv := hr c (by simp)
    have he := enc_len hv
    have hq := qc_len hv
    simp only [List.length_cons] at hn hl
    show quote_Quote_6_0_B strings_Builder_WriteByte_4b84 quote_short strings_Builder_WriteString_df1e strings_Builder_WriteRune_dc6e (fun x0' x1' x2' => quote_Quote_6_0_L m x0' x1' x2' e0) (zs o) (encL (done ++ c :: rs)) (encL done).length e0 = _
    rw [quote_round (c := c) (t := encL rs) (by rw [enc_head, List.length_append, List.length_append]; omega) (by rw [enc_head, List.drop_left]) hv o (by omega)]
    have e1 : done ++ c :: rs = (done ++ [c]) ++ rs := by simp
    have e2 : (encL done).length + (enc c).length = (encL (done ++ [c])).length := by rw [encL_snoc, List.length_append]
    rw [e1, e2, ih m (done ++ [c]) (o ++ qc c) (by omega) (fun x hx => hr x (by simp [hx])) (fun x hx => by
      rcases List.mem_append.1 hx with h | h
      · exact hd x h
      · simp at h; subst h; exact hv) (by rw [List.length_append]; omega)]
    rw [List.append_assoc]
    rfl

theorem encL_count : ∀ (rs : List Nat), (∀ c ∈ rs, vr c) → rs.length ≤ (encL rs).length ∧ (encL rs).length ≤ 4 * rs.length
  | [], _ => by simp [encL]
  | c :: rs, h => by
    have h1 := enc_len (h c (by simp))
    have h2 := encL_count rs (fun x hx => h x (by simp [hx]))
    have : encL (c :: rs) = enc c ++ encL rs := by simp [encL]
    rw [this, List.length_append, List.length_cons]
    omega
theorem qcL_count : ∀ (rs : List Nat), (∀ c ∈ rs, vr c) → (qcL rs).length ≤ 6 * rs.length
  | [], _ => by simp [qcL]
  | c :: rs, h => by
    have h1 := qc_len (h c (by simp))
    have h2 := qcL_count rs (fun x hx => h x (by simp [hx]))
    have : qcL (c :: rs) = qc c ++ qcL rs := by simp [qcL]
    rw [this, List.length_append, List.length_cons]
    omega

theorem quote_ok {R : Type} (rs : List Nat) (hr : ∀ c ∈ rs, vr c) (hl : rs.length ≤ 10000000000) (k : Str → Bool → Option R) : quote_Quote (encL rs) k = k (qt rs) true := by
  have hc := encL_count rs hr
  have hq := qcL_count rs hr
  have hw : validS (encL rs) = true := whole_iff.2 ⟨rs, hr, rfl⟩
  show quote_Quote_X quote_Whole strings_Builder_WriteByte_b66c strings_Builder_WriteByte_4b84 quote_Quote_6_0_L (encL rs) k = _
  unfold quote_Quote_X
  have q : ∀ (x : Str) (f : Bool → Option R), quote_Whole x f = f (validS x) := fun _ _ => rfl
  have q2 : ∀ (x : Int) (f : List Int → Option R), strings_Builder_WriteByte_b66c x f = f [x] := fun _ _ => rfl
  rw [q, hw, Bool.not_true, cond_false, q2]
  have e34 : ([34] : List Int) = zs [34] := rfl
  rw [e34]
  have := quote_loop (R := R) rs (List.length (zs [34]) + List.length (encL rs) + 64) [] [34] (by omega) hr (by simp) (by simp; omega)
  rw [List.nil_append] at this
  have e0 : (encL []).length = 0 := rfl
  rw [e0] at this
  rw [this]
  have h34 : (34 : Int) = ((34 : UInt8).toNat : Int) := rfl
  rw [h34, wb _ _ (by unfold Lim; rw [List.length_append]; simp; omega), bstr_zs]
  rfl

end Go.Proofs.YtmlkkgfenfdndaaGreatDoor

set_option linter.unusedVariables false
set_option maxRecDepth 100000
namespace Go.Proofs.YtmlkkgfenfdndaaGreatDoor
open Go Go.Yard Go.Lib

def stepU (s : Str) : Option (Nat × Str) := if ([92] : Str).isPrefixOf s then escP (s.drop 1) else plainP s
def uq : Nat → Str → Str → Option (Str × Str)
  | 0, _, _ => none
  | n + 1, s, o => if ([34] : Str).isPrefixOf s then some (o, s.drop 1) else match stepU s with | none => none | some (c, r) => uq n r (o ++ enc c)

theorem longP_ok {s r : Str} {c : Nat} (h : longP s = some (c, r)) : vr c ∧ r.length + 4 ≤ s.length := by
  unfold longP at h
  split at h
  · cases h
  · rename_i v r1 hu
    obtain ⟨hv, hl, hr⟩ := unitP_lt hu
    split at h
    · cases h
      refine ⟨by unfold vr; omega, ?_⟩
      rw [hr, List.length_drop]; omega
    · split at h
      · cases h
      · split at h
        · split at h
          · cases h
          · rename_i w r2 hu2
            obtain ⟨hw, hl2, hr2⟩ := unitP_lt hu2
            split at h
            · simp only [Option.some.injEq, Prod.mk.injEq] at h
              obtain ⟨hc, rfl⟩ := h
              refine ⟨by unfold vr; omega, ?_⟩
              rw [hr2, hr]
              simp only [List.length_drop]
              rw [hr] at hl2
              simp only [List.length_drop] at hl2
              omega
            · cases h
        · cases h

theorem escP_ok {s r : Str} {c : Nat} (h : escP s = some (c, r)) : vr c ∧ r.length < s.length := by
  cases s with
  | nil => cases h
  | cons b t =>
    simp only [escP] at h
    have hb := UInt8.toNat_lt b
    split at h
    · cases h; exact ⟨by unfold vr; omega, by simp⟩
    split at h
    · cases h; exact ⟨by unfold vr; omega, by simp⟩
    split at h
    · cases h; exact ⟨by unfold vr; omega, by simp⟩
    split at h
    · cases h; exact ⟨by unfold vr; omega, by simp⟩
    split at h
    · cases h; exact ⟨by unfold vr; omega, by simp⟩
    split at h
    · cases h; exact ⟨by unfold vr; omega, by simp⟩
    split at h
    · obtain ⟨h1, h2⟩ := longP_ok h
      exact ⟨h1, by simp only [List.length_cons]; omega⟩
    · cases h

theorem plainP_ok {s r : Str} {c : Nat} (h : plainP s = some (c, r)) : vr c ∧ r.length < s.length := by
  unfold plainP at h
  split at h
  · cases h
  · rename_i hne
    split at h
    · cases h
    · split at h
      · cases h
      · cases h
        have h1 := decodeL_width s
        have h2 : 0 < s.length := List.length_pos_iff.2 hne
        exact ⟨dec_vr s, by rw [List.length_drop]; omega⟩

theorem stepU_ok {s r : Str} {c : Nat} (h : stepU s = some (c, r)) : vr c ∧ r.length < s.length := by
  unfold stepU at h
  split at h
  · obtain ⟨h1, h2⟩ := escP_ok h
    exact ⟨h1, by rw [List.length_drop] at h2; omega⟩
  · exact plainP_ok h

theorem uq_fuel : ∀ (n m : Nat) (s o : Str), s.length < n → s.length < m → uq n s o = uq m s o
  | 0, _, _, _, h, _ => by omega
  | _ + 1, 0, _, _, _, h => by omega
  | n + 1, m + 1, s, o, hn, hm => by
    unfold uq
    split
    · rfl
    · cases hs : stepU s with
      | none => rfl
      | some p =>
        obtain ⟨c, r⟩ := p
        obtain ⟨_, h2⟩ := stepU_ok hs
        exact uq_fuel n m r _ (by omega) (by omega)

theorem unq_loop {R : Type} (x : Str) (e0 : Str → Str → List Int → Option R) (e1 : Str → Str → Int → Bool → Str → List Int → Option R) : ∀ (n : Nat) (s o : Str), s.length < n → o.length + 4 * s.length ≤ 90000000000 →
    (match uq n s o with
     | some (o', r) => quote_Unquote_5_0_L n x s (zs o) e0 e1 = e0 x r (zs o')
     | none => ∃ a b, quote_Unquote_5_0_L n x s (zs o) e0 e1 = e1 x [] 0 false a b) := by
  intro n
  induction n with
  | zero => intro s o h; omega
  | succ n ih =>
    intro s o h hb
    have hL : quote_Unquote_5_0_L (n + 1) x s (zs o) e0 e1 = quote_Unquote_5_0_B strings_Builder_WriteRune_dc6e quote_reader_skip_e74a quote_reader_plain_abbd quote_reader_escaped_abbd (fun x0' x1' x2' => quote_Unquote_5_0_L n x0' x1' x2' e0 e1) x s (zs o) e0 e1 := rfl
    rw [hL]
    unfold quote_Unquote_5_0_B
    rw [skip_ok _ _ (by simp) (by omega)]
    simp only [uq]
    have hlim : Lim o := by unfold Lim; omega
    by_cases h34 : ([34] : Str).isPrefixOf s = true
    · rw [if_pos h34, if_pos h34]
      rfl
    · rw [if_neg h34, if_neg h34, Bool.not_false, cond_true, skip_ok _ _ (by simp) (by omega)]
      have fin : ∀ (c : Nat) (r : Str), vr c → r.length < s.length →
          (match uq n r (o ++ enc c) with
           | some (o', r') => quote_Unquote_5_0_L n x r (zs (o ++ enc c)) e0 e1 = e0 x r' (zs o')
           | none => ∃ a b, quote_Unquote_5_0_L n x r (zs (o ++ enc c)) e0 e1 = e1 x [] 0 false a b) := fun c r hv hr => by
        have := enc_len hv
        exact ih r (o ++ enc c) (by omega) (by rw [List.length_append]; omega)
      unfold stepU
      by_cases h92 : ([92] : Str).isPrefixOf s = true
      · rw [if_pos h92, if_pos h92]
        have e1' : s.drop ([92] : Str).length = s.drop 1 := rfl
        rw [e1', cond_true]
        have hk := esc_ok (R := R) (s.drop 1) (by rw [List.length_drop]; omega) (fun y11 y12 => bif (decide (y11 < (0 : Int))) then (e1 x ([] : Str) 0 false y12 (zs o)) else (strings_Builder_WriteRune_dc6e y11 (zs o) (fun y13 y14 => quote_Unquote_5_0_L n x y12 y14 e0 e1)))
        cases he : escP (s.drop 1) with
        | none =>
          rw [he] at hk
          obtain ⟨r, hk⟩ := hk
          exact ⟨r, zs o, hk.trans (by rw [dtrue (show (-1 : Int) < 0 by omega), cond_true])⟩
        | some p =>
          obtain ⟨c, r⟩ := p
          rw [he] at hk
          obtain ⟨hv, hr⟩ := escP_ok he
          rw [List.length_drop] at hr
          simp only at hk ⊢
          rw [hk, dfalse (show ¬ (c : Int) < 0 by omega), cond_false]
          obtain ⟨q, hq⟩ := wr hv o hlim (fun y13 y14 => quote_Unquote_5_0_L n x r y14 e0 e1)
          rw [hq]
          exact fin c r hv (by omega)
      · rw [if_neg h92, if_neg h92, cond_false]
        have hk := plain_ok (R := R) s (by omega) (fun y15 y16 => bif (decide (y15 < (0 : Int))) then (e1 x ([] : Str) 0 false y16 (zs o)) else (strings_Builder_WriteRune_dc6e y15 (zs o) (fun y17 y18 => quote_Unquote_5_0_L n x y16 y18 e0 e1)))
        cases he : plainP s with
        | none =>
          rw [he] at hk
          simp only at hk ⊢
          exact ⟨s, zs o, hk.trans (by rw [dtrue (show (-1 : Int) < 0 by omega), cond_true])⟩
        | some p =>
          obtain ⟨c, r⟩ := p
          rw [he] at hk
          obtain ⟨hv, hr⟩ := plainP_ok he
          simp only at hk ⊢
          rw [hk, dfalse (show ¬ (c : Int) < 0 by omega), cond_false]
          obtain ⟨q, hq⟩ := wr hv o hlim (fun y17 y18 => quote_Unquote_5_0_L n x r y18 e0 e1)
          rw [hq]
          exact fin c r hv (by omega)

def uqS (s : Str) : Option (Str × Str) := if ([34] : Str).isPrefixOf s then uq (s.length + 1) (s.drop 1) [] else none

theorem unquote_ok {R : Type} (s : Str) (hs : s.length ≤ 20000000000) (k : Str → Int → Bool → Option R) :
    quote_Unquote s k = match uqS s with | some (o, r) => k o (IntKind.i64.wrap ((s.length : Int) - (r.length : Int))) true | none => k [] 0 false := by
  have e : quote_Unquote s k = quote_Unquote_X quote_reader_skip_e74a quote_Unquote_5_0_L s k := rfl
  rw [e]
  unfold quote_Unquote_X uqS
  rw [skip_ok _ _ (by simp) (by omega)]
  by_cases h34 : ([34] : Str).isPrefixOf s = true
  · rw [if_pos h34, if_pos h34, Bool.not_true, cond_false]
    have e1 : s.drop ([34] : Str).length = s.drop 1 := rfl
    rw [e1]
    have hd : (s.drop 1).length ≤ s.length := by rw [List.length_drop]; omega
    have key := unq_loop (R := R) s (fun y19 y20 y21 => k (bstr y21) (IntKind.i64.wrap ((y19.length : Int) - (y20.length : Int))) true) (fun y22 y23 y24 y25 y26 y27 => k y23 y24 y25) (List.length s + List.length (s.drop 1) + List.length ([] : List Int) + 64) (s.drop 1) [] (by omega) (by simp only [List.length_nil]; omega)
    rw [uq_fuel _ (s.length + 1) (s.drop 1) [] (by omega) (by omega)] at key
    cases hu : uq (s.length + 1) (s.drop 1) [] with
    | none =>
      rw [hu] at key
      obtain ⟨a, b, key⟩ := key
      exact key
    | some p =>
      obtain ⟨o, r⟩ := p
      rw [hu] at key
      simp only at key ⊢
      refine Eq.trans key ?_
      rw [bstr_zs]
  · rw [if_neg h34, if_neg h34]
    rfl

theorem pre_cons (a b : UInt8) (t : Str) : ([a] : Str).isPrefixOf (b :: t) = (a == b) := by
  simp [List.isPrefixOf]

theorem hex_back : ∀ c : Fin 32, hexN [48, 48, hexS.getD (c.val / 16) 0, hexS.getD (c.val % 16) 0] 0 = some c.val := by decide +kernel

theorem u8_ne {b : UInt8} {n : Nat} (hn : n < 256) (h : b.toNat ≠ n) : ((UInt8.ofNat n) == b) = false := by
  rw [beq_eq_false_iff_ne]
  rintro rfl
  rw [u8_nat n hn] at h
  exact h rfl

theorem enc_first {c : Nat} (hv : vr c) (h : 32 ≤ c) (h34 : c ≠ 34) (h92 : c ≠ 92) : ∃ b t, enc c = b :: t ∧ b.toNat ≠ 34 ∧ b.toNat ≠ 92 := by
  have hlt := vr_lt hv
  rcases enc_cases hv with ⟨h1, e⟩ | ⟨h0, h1, e⟩ | ⟨h0, h1, e⟩ | ⟨h0, e⟩
  · exact ⟨_, _, e, by rw [u8_nat _ (by omega)]; exact h34, by rw [u8_nat _ (by omega)]; exact h92⟩
  · exact ⟨_, _, e, by rw [u8_nat _ (by omega)]; omega, by rw [u8_nat _ (by omega)]; omega⟩
  · exact ⟨_, _, e, by rw [u8_nat _ (by omega)]; omega, by rw [u8_nat _ (by omega)]; omega⟩
  · exact ⟨_, _, e, by rw [u8_nat _ (by omega)]; omega, by rw [u8_nat _ (by omega)]; omega⟩

theorem shortC_cases (c : Nat) : (shortC c = 0 ∧ c ≠ 34 ∧ c ≠ 92) ∨ c = 34 ∨ c = 92 ∨ c = 8 ∨ c = 12 ∨ c = 10 ∨ c = 13 ∨ c = 9 := by
  unfold shortC
  by_cases h1 : c = 34 <;> by_cases h2 : c = 92 <;> by_cases h3 : c = 8 <;> by_cases h4 : c = 12 <;> by_cases h5 : c = 10 <;> by_cases h6 : c = 13 <;> by_cases h7 : c = 9 <;> simp [h1, h2, h3, h4, h5, h6, h7]

theorem qc_hex {c : Nat} (h0 : shortC c = 0) (h : c < 32) : qc c = [92, 117, 48, 48, hexS.getD (c / 16) 0, hexS.getD (c % 16) 0] := by unfold qc; rw [if_neg (by omega), if_pos h]
theorem qc_enc {c : Nat} (h0 : shortC c = 0) (h : ¬ c < 32) : qc c = enc c := by unfold qc; rw [if_neg (by omega), if_neg h]

theorem step_qc {c : Nat} (hv : vr c) (t : Str) : ([34] : Str).isPrefixOf (qc c ++ t) = false ∧ stepU (qc c ++ t) = some (c, t) := by
  rcases shortC_cases c with ⟨h0, h34, h92⟩ | rfl | rfl | rfl | rfl | rfl | rfl | rfl
  · by_cases h32 : c < 32
    · rw [qc_hex h0 h32]
      refine ⟨rfl, ?_⟩
      have hb := hex_back ⟨c, h32⟩
      simp only at hb
      show longP (48 :: 48 :: hexS.getD (c / 16) 0 :: hexS.getD (c % 16) 0 :: t) = some (c, t)
      have hu : unitP (48 :: 48 :: hexS.getD (c / 16) 0 :: hexS.getD (c % 16) 0 :: t) = some (c, t) := by
        unfold unitP
        rw [if_neg (by simp only [List.length_cons]; omega)]
        have e : List.take 4 (48 :: 48 :: hexS.getD (c / 16) 0 :: hexS.getD (c % 16) 0 :: t) = [48, 48, hexS.getD (c / 16) 0, hexS.getD (c % 16) 0] := rfl
        rw [e, hb]
        rfl
      unfold longP
      rw [hu]
      simp only
      rw [if_pos (.inl (by omega))]
    · rw [qc_enc h0 h32]
      obtain ⟨b, u, e, g1, g2⟩ := enc_first hv (by omega) h34 h92
      have e2 : enc c ++ t = b :: (u ++ t) := by rw [e]; rfl
      refine ⟨?_, ?_⟩
      · rw [e2, pre_cons]
        exact u8_ne (n := 34) (by omega) g1
      · unfold stepU
        have : ([92] : Str).isPrefixOf (enc c ++ t) = false := by
          rw [e2, pre_cons]
          exact u8_ne (n := 92) (by omega) g2
        rw [this]
        simp only [Bool.false_eq_true, if_false]
        unfold plainP
        rw [if_neg (enc_ne hv t), dec_enc hv t]
        simp only
        have hg := good_enc hv t
        unfold good at hg
        rw [dec_enc hv t] at hg
        simp only at hg
        rw [if_neg hg, if_neg h32, List.drop_left]
  · exact ⟨rfl, rfl⟩
  · exact ⟨rfl, rfl⟩
  · exact ⟨rfl, rfl⟩
  · exact ⟨rfl, rfl⟩
  · exact ⟨rfl, rfl⟩
  · exact ⟨rfl, rfl⟩
  · exact ⟨rfl, rfl⟩

theorem uq_qc : ∀ (rs : List Nat), (∀ c ∈ rs, vr c) → ∀ (n : Nat) (o more : Str), rs.length < n → uq n (qcL rs ++ 34 :: more) o = some (o ++ encL rs, more)
  | [], _, n, o, more, hn => by
    obtain ⟨m, rfl⟩ : ∃ m, n = m + 1 := ⟨n - 1, by simp at hn; omega⟩
    have : qcL [] ++ 34 :: more = 34 :: more := rfl
    rw [this]
    simp [uq, List.isPrefixOf, encL]
  | c :: rs, hr, n, o, more, hn => by
    obtain ⟨m, rfl⟩ : ∃ m, n = m + 1 := ⟨n - 1, by simp at hn; omega⟩
    have hv := hr c (by simp)
    have e : qcL (c :: rs) ++ 34 :: more = qc c ++ (qcL rs ++ 34 :: more) := by simp [qcL]
    obtain ⟨h1, h2⟩ := step_qc hv (qcL rs ++ 34 :: more)
    rw [e]
    simp only [uq, h1, h2, Bool.false_eq_true, if_false]
    rw [uq_qc rs (fun x hx => hr x (by simp [hx])) m (o ++ enc c) more (by simp at hn; omega)]
    simp [encL]

theorem qc_pos {c : Nat} (hv : vr c) : 1 ≤ (qc c).length := by
  unfold qc
  split
  · simp
  · split
    · simp
    · exact (enc_len hv).1
theorem qcL_pos : ∀ (rs : List Nat), (∀ c ∈ rs, vr c) → rs.length ≤ (qcL rs).length
  | [], _ => by simp [qcL]
  | c :: rs, h => by
    have h1 := qc_pos (h c (by simp))
    have h2 := qcL_pos rs (fun x hx => h x (by simp [hx]))
    have : qcL (c :: rs) = qc c ++ qcL rs := by simp [qcL]
    rw [this, List.length_append, List.length_cons]
    omega

theorem uqS_qt (rs : List Nat) (hr : ∀ c ∈ rs, vr c) (more : Str) : uqS (qt rs ++ more) = some (encL rs, more) := by
  have e : qt rs ++ more = 34 :: (qcL rs ++ 34 :: more) := by unfold qt; simp
  have hq := qcL_pos rs hr
  rw [e]
  unfold uqS
  rw [pre_cons]
  simp only [BEq.rfl, if_true, List.drop_succ_cons, List.drop_zero]
  have := uq_qc rs hr ((34 :: (qcL rs ++ 34 :: more)).length + 1) [] more (by simp only [List.length_cons, List.length_append]; omega)
  rw [this]
  rfl
end Go.Proofs.YtmlkkgfenfdndaaGreatDoor


set_option linter.unusedVariables false
set_option maxRecDepth 100000
namespace Go.Proofs.YtmlkkgfenfdndaaGreatDoor
open Go Go.Yard Go.Lib

end Go.Proofs.YtmlkkgfenfdndaaGreatDoor


set_option linter.unusedVariables false
set_option maxRecDepth 100000
namespace Go.Proofs.YtmlkkgfenfdndaaGreatDoor
open Go Go.Yard Go.Lib

end Go.Proofs.YtmlkkgfenfdndaaGreatDoor


set_option linter.unusedVariables false
set_option maxRecDepth 100000
namespace Go.Proofs.YtmlkkgfenfdndaaGreatDoor
open Go Go.Yard Go.Lib

end Go.Proofs.YtmlkkgfenfdndaaGreatDoor


set_option linter.unusedVariables false
set_option maxRecDepth 100000
namespace Go.Proofs.YtmlkkgfenfdndaaGreatDoor
open Go Go.Yard Go.Lib

end Go.Proofs.YtmlkkgfenfdndaaGreatDoor


set_option linter.unusedVariables false
set_option maxRecDepth 100000
namespace Go.Proofs.YtmlkkgfenfdndaaGreatDoor
open Go Go.Yard Go.Lib

theorem eqI (n m : Nat) : ((n : Int) == (m : Int)) = decide (n = m) := by
  by_cases h : n = m
  · subst h; simp
  · have : ¬ ((n : Int) = (m : Int)) := by omega
    simp [h, this]

end Go.Proofs.YtmlkkgfenfdndaaGreatDoor


set_option linter.unusedVariables false
set_option maxRecDepth 100000
namespace Go.Proofs.YtmlkkgfenfdndaaGreatDoor
open Go Go.Yard Go.Lib

end Go.Proofs.YtmlkkgfenfdndaaGreatDoor


set_option linter.unusedVariables false
set_option maxRecDepth 100000
namespace Go.Proofs.YtmlkkgfenfdndaaGreatDoor
open Go Go.Yard Go.Lib

end Go.Proofs.YtmlkkgfenfdndaaGreatDoor


set_option linter.unusedVariables false
set_option maxRecDepth 100000
namespace Go.Proofs.YtmlkkgfenfdndaaGreatDoor
open Go Go.Yard Go.Lib

theorem dec_all (u : Nat) : ∀ b ∈ decDigits u, 48 ≤ b.toNat ∧ b.toNat ≤ 57 := by
  induction u using Nat.strongRecOn with
  | _ u ih =>
    intro b hb
    by_cases h : u < 10
    · rw [decDigits, dif_pos h] at hb
      simp only [List.mem_cons, List.not_mem_nil, or_false] at hb
      subst hb
      rw [u8_nat _ (by omega)]; omega
    · rw [decDigits, dif_neg h] at hb
      rcases List.mem_append.1 hb with hb | hb
      · exact ih (u / 10) (by omega) b hb
      · simp only [List.mem_cons, List.not_mem_nil, or_false] at hb
        subst hb
        rw [u8_nat _ (by omega)]; omega
theorem dec_first (u : Nat) (hu : 0 < u) : ∃ b t, decDigits u = b :: t ∧ b.toNat ≠ 48 := by
  induction u using Nat.strongRecOn with
  | _ u ih =>
    by_cases h : u < 10
    · exact ⟨_, [], by rw [decDigits, dif_pos h], by rw [u8_nat _ (by omega)]; omega⟩
    · obtain ⟨b, t, e, hb⟩ := ih (u / 10) (by omega) (by omega)
      exact ⟨b, t ++ [UInt8.ofNat (48 + u % 10)], by rw [decDigits, dif_neg h, e]; rfl, hb⟩
theorem dec_last (u : Nat) : ∃ l, decDigits u = l ++ [UInt8.ofNat (48 + u % 10)] := by
  by_cases h : u < 10
  · exact ⟨[], by rw [decDigits, dif_pos h, Nat.mod_eq_of_lt h]; rfl⟩
  · exact ⟨decDigits (u / 10), by rw [decDigits, dif_neg h]⟩

theorem tmod_abs {m : Int} (h : Int.tmod m 10 ≠ 0) : m.natAbs % 10 ≠ 0 := by
  intro h2
  apply h
  have e : m = (m / 10) * 10 := by omega
  rw [e]
  exact Int.mul_tmod_left _ _

end Go.Proofs.YtmlkkgfenfdndaaGreatDoor

set_option linter.unusedVariables false
set_option maxRecDepth 100000
namespace Go.Proofs.YtmlkkgfenfdndaaGreatDoor
open Go Go.Yard Go.Lib

theorem idx_neg (c : UInt8) : ∀ l : Str, Go.Lib.indexByte l c < 0 ↔ l.contains c = false
  | [] => by simp [Go.Lib.indexByte]
  | x :: l => by
    have ih := idx_neg c l
    have hg := Go.Lib.indexByte_ge l c
    unfold Go.Lib.indexByte
    rw [List.contains_cons]
    by_cases h : x = c
    · subst h; simp
    · have h2 : (c == x) = false := by rw [beq_eq_false_iff_ne]; exact fun e => h e.symm
      rw [h2, Bool.false_or, ← ih]
      split
      · rename_i h3; exact (h (beq_iff_eq.1 h3)).elim
      · split
        · rename_i h4
          have := beq_iff_eq.1 h4
          omega
        · rename_i h4
          have : ¬ Go.Lib.indexByte l c = -1 := fun e => h4 (beq_iff_eq.2 e)
          omega

def signP (signs s : Str) : Nat × Str := match s with | [] => (0, []) | b :: t => if signs.contains b then (b.toNat, t) else (0, b :: t)

theorem sign_ok {R : Type} (signs s : Str) (hs : s.length ≤ 4000000000) (k : Int → Str → Option R) : decimal_reader_sign_e74a signs s k = k ((signP signs s).1 : Int) (signP signs s).2 := by
  have e : decimal_reader_sign_e74a signs s k = decimal_reader_sign_e74a_X signs s k := rfl
  rw [e]
  unfold decimal_reader_sign_e74a_X
  cases s with
  | nil => rfl
  | cons b t =>
    simp only [List.length_cons] at hs
    have hne : ((b :: t : Str) == ([] : Str)) = false := rfl
    have hg : ((b :: t : Str).getD 0 0) = b := rfl
    have hd : ((b :: t : Str).drop 1).take (((b :: t : Str).length : Int).toNat - 1) = t := by
      rw [Int.toNat_natCast, List.drop_succ_cons, List.drop_zero, List.length_cons, Nat.add_sub_cancel, List.take_length]
    have hi : idxByte signs ((b.toNat : Nat) : Int) = Go.Lib.indexByte signs b := by
      unfold idxByte
      rw [Int.toNat_natCast]
      simp
    have hl : (b :: t : Str).length = t.length + 1 := rfl
    rw [hne, cond_false, hg, hd, hi, hl, chk_pos (dtrue (by omega))]
    unfold signP
    cases hc : signs.contains b with
    | false =>
      rw [dtrue ((idx_neg b signs).2 hc), cond_true]
      simp only [hc, Bool.false_eq_true, if_false]
      rfl
    | true =>
      have : ¬ Go.Lib.indexByte signs b < 0 := fun h => by rw [(idx_neg b signs).1 h] at hc; cases hc
      rw [dfalse this, cond_false, chk_pos (dtrue (by omega)), chk_pos (by rw [dtrue (show (0 : Int) ≤ ((t.length + 1 : Nat) : Int) by omega), dtrue (by omega)]; rfl), chk_pos (dtrue (by omega))]
      simp only [hc, if_true]

def digS : Str := [48, 49, 50, 51, 52, 53, 54, 55, 56, 57]
def isDig (b : UInt8) : Prop := 48 ≤ b.toNat ∧ b.toNat ≤ 57
theorem digS_all : ∀ n : Fin 256, digS.contains (UInt8.ofNat n.val) = decide (48 ≤ n.val ∧ n.val ≤ 57) := by decide +kernel
theorem digS_ok (b : UInt8) : digS.contains b = decide (48 ≤ b.toNat ∧ b.toNat ≤ 57) := by
  have := digS_all ⟨b.toNat, UInt8.toNat_lt b⟩
  simpa using this

theorem dropW_app (p : UInt8 → Bool) : ∀ (a r : Str), (∀ x ∈ a, p x = true) → (a ++ r).dropWhile p = r.dropWhile p
  | [], r, _ => rfl
  | x :: a, r, h => by
    rw [List.cons_append, List.dropWhile_cons, h x (by simp), if_pos rfl]
    exact dropW_app p a r fun y hy => h y (by simp [hy])
theorem dropW_head (p : UInt8 → Bool) (r : Str) (h : ∀ b t, r = b :: t → p b = false) : r.dropWhile p = r := by
  cases r with
  | nil => rfl
  | cons b t => rw [List.dropWhile_cons, h b t rfl]; rfl

theorem digits_ok {R : Type} (a r : Str) (ha : ∀ x ∈ a, isDig x) (hr : ∀ b t, r = b :: t → ¬ isDig b) (hl : (a ++ r).length ≤ 4000000000) (k : Str → Str → Option R) : decimal_reader_digits_abbd (a ++ r) k = k a r := by
  have e : decimal_reader_digits_abbd (a ++ r) k = decimal_reader_digits_abbd_X (a ++ r) k := rfl
  rw [e]
  unfold decimal_reader_digits_abbd_X
  have ht : trimL (a ++ r) ([48, 49, 50, 51, 52, 53, 54, 55, 56, 57] : Str) = r := by
    unfold trimL
    have h1 := dropW_app (fun x => digS.contains x) a r (fun x hx => by rw [digS_ok]; exact dtrue (ha x hx))
    have h2 := dropW_head (fun x => digS.contains x) r (fun b t hb => by rw [digS_ok]; exact dfalse (hr b t hb))
    exact h1.trans h2
  rw [ht]
  have hlen : (a ++ r).length = a.length + r.length := List.length_append
  have hw : IntKind.i64.wrap (((a ++ r).length : Int) - (r.length : Int)) = (a.length : Int) := by rw [hlen, wrap_id (by omega) (by omega)]; omega
  rw [hw, chk_pos (by rfl), chk_pos (by rw [dtrue (by omega), dtrue (by omega)]; rfl), chk_pos (dtrue (by omega)), List.drop_zero, Int.toNat_natCast, Nat.sub_zero, List.take_left]

theorem parse_ok {R : Type} (neg : Bool) (I F X : Str) (pt : Bool) (ev : Int) (hI : ∀ x ∈ I, isDig x) (hI0 : I ≠ []) (hI1 : 1 < I.length → (I.getD 0 0).toNat ≠ 48) (hF : ∀ x ∈ F, isDig x) (hF0 : pt = true → F ≠ []) (hF1 : pt = false → F = [])
    (hX : (X = [] ∧ ev = 0) ∨ ∃ b Y, X = b :: Y ∧ (b = 101 ∨ b = 69) ∧ ∀ f : Int → Bool → Str → Option R, decimal_reader_exponent_abbd Y f = f ev true []) (hev : -1000000 ≤ ev ∧ ev ≤ 1000000)
    (hlen : ((if neg then [45] else []) ++ (I ++ ((if pt then 46 :: F else []) ++ X))).length ≤ 400)
    (hsh : (trimR (trimL (I ++ F) [48]) [48]).length ≤ 18) (k : Dcm → Bool → Option R) :
    decimal_Parse ((if neg then [45] else []) ++ (I ++ ((if pt then 46 :: F else []) ++ X))) k =
      decimal_Make (if neg then IntKind.i64.wrap (0 - atoiVal (48 :: trimR (trimL (I ++ F) [48]) [48])) else atoiVal (48 :: trimR (trimL (I ++ F) [48]) [48])) (-(F.length : Int) + ev + (((trimL (I ++ F) [48]).length : Int) - ((trimR (trimL (I ++ F) [48]) [48]).length : Int))) k := by
  generalize hS : (if neg then [45] else []) ++ (I ++ ((if pt then 46 :: F else []) ++ X)) = s at *
  have e : decimal_Parse s k = decimal_Parse_X decimal_Make decimal_reader_sign_e74a decimal_reader_digits_abbd decimal_reader_exponent_abbd s k := rfl
  rw [e]
  unfold decimal_Parse_X
  -- the pieces
  obtain ⟨i0, It, hIe⟩ : ∃ b t, I = b :: t := by cases I with | nil => exact (hI0 rfl).elim | cons b t => exact ⟨b, t, rfl⟩
  have hi0 := hI i0 (by rw [hIe]; simp)
  have hXh : ∀ b t, X = b :: t → ¬ isDig b ∧ b.toNat ≠ 46 := by
    intro b t hb
    rcases hX with ⟨rfl, _⟩ | ⟨c, Y, rfl, hc, _⟩
    · cases hb
    · cases hb
      rcases hc with rfl | rfl <;> exact ⟨by unfold isDig; decide, by decide⟩
  have hs1 : signP [45] s = (if neg then 45 else 0, I ++ ((if pt then 46 :: F else []) ++ X)) := by
    rw [← hS]
    cases neg with
    | true => rfl
    | false =>
      rw [hIe]
      have : ([45] : Str).contains i0 = false := by
        have : i0 ≠ 45 := by rintro rfl; exact absurd hi0.1 (by decide)
        simp [this]
      simp only [Bool.false_eq_true, if_false, List.nil_append, List.cons_append, signP, this]
  have hsl : s.length ≤ 400 := hlen
  have hparts : s.length = (if neg then 1 else 0) + (I.length + ((if pt then F.length + 1 else 0) + X.length)) := by
    rw [← hS]
    cases neg <;> cases pt <;> simp <;> omega
  have hFl : F.length ≤ 400 := by
    cases pt with
    | true => simp at hparts; omega
    | false => rw [hF1 rfl]; simp
  have hIl : I.length ≤ 400 := by omega
  have hXl : X.length ≤ 400 := by omega
  rw [sign_ok _ _ (by omega), hs1]
  simp only
  have hPh : ∀ b t, (if pt then 46 :: F else []) ++ X = b :: t → ¬ isDig b := by
    intro b t hb
    cases pt with
    | true => simp at hb; rw [← hb.1]; unfold isDig; decide
    | false => exact (hXh b t (by simpa using hb)).1
  have hl2 : (I ++ ((if pt then 46 :: F else []) ++ X)).length ≤ 4000000000 := by
    have : (I ++ ((if pt then 46 :: F else []) ++ X)).length = I.length + ((if pt then F.length + 1 else 0) + X.length) := by cases pt <;> simp <;> omega
    omega
  rw [digits_ok I _ hI hPh hl2]
  have hne : (I == ([] : Str)) = false := by rw [beq_eq_false_iff_ne]; exact hI0
  rw [dfalse (show ¬ (s.length : Int) > 400 by omega), cond_false, hne, cond_false]
  have q48 : (((I.getD 0 0).toNat : Int) == 48) = decide ((I.getD 0 0).toNat = 48) := eqI _ 48
  -- the rest, behind the first test
  have drop1 : ∀ x : Option R, (bif (decide ((I.length : Int) > 1)) then (chk (decide ((0 : Int) < I.length)) (bif (((I.getD 0 0).toNat : Int) == 48) then (k ⟨0, 0⟩ false) else x)) else x) = x := by
    intro x
    by_cases h : 1 < I.length
    · rw [dtrue (show (I.length : Int) > 1 by omega), cond_true, chk_pos (dtrue (by omega)), q48, dfalse (hI1 h), cond_false]
    · rw [dfalse (show ¬ (I.length : Int) > 1 by omega), cond_false]
  rw [drop1]
  generalize hA : I ++ F = all at *
  have hall : all.length ≤ 800 := by rw [← hA, List.length_append]; omega
  have htl : (trimL all [48]).length ≤ all.length := drop_le _ _
  have lone : ([48] : Str).length = 1 := rfl
  have hc : (([48] : Str) ++ (trimR (trimL all ([48] : Str)) ([48] : Str))) = 48 :: trimR (trimL all [48]) [48] := rfl
  have hbe : ((([] : Str) == ([] : Str))) = true := rfl
  have hs2 : decide ((48 :: trimR (trimL all [48]) [48] : Str).length ≤ 281474976710656) = true := dtrue (by simp only [List.length_cons]; omega)
  have w0 : IntKind.i64.wrap (((trimL all [48]).length : Int) - ((trimR (trimL all [48]) [48]).length : Int)) = ((trimL all [48]).length : Int) - ((trimR (trimL all [48]) [48]).length : Int) := wrap_id (by omega) (by omega)
  have q1 : decide (1 + (trimR (trimL all [48]) [48]).length ≤ 9223372036854775807) = true := dtrue (by omega)
  have q2 : decide (((trimR (trimL all [48]) [48]).length : Int) > 18) = false := dfalse (by omega)
  have q3 : (isAsc ([48] : Str) && decide (([48] : Str).length < 4294967281)) = true := rfl
  have qn : (((if neg then 45 else 0 : Nat) : Int) != 0) = neg := by cases neg <;> rfl
  have sX : signP [101, 69] X = match X with | [] => (0, []) | b :: Y => (b.toNat, Y) := by
    rcases hX with ⟨rfl, _⟩ | ⟨b, Y, rfl, hb, _⟩
    · rfl
    · rcases hb with rfl | rfl <;> rfl
  cases pt with
  | false =>
    have hFe := hF1 rfl
    subst hFe
    rw [List.append_nil] at hA
    subst hA
    have s46 : signP [46] X = (0, X) := by
      rcases hX with ⟨rfl, _⟩ | ⟨b, Y, rfl, hb, _⟩
      · rfl
      · rcases hb with rfl | rfl <;> rfl
    simp only [Bool.false_eq_true, if_false, List.nil_append]
    rw [sign_ok _ _ (by omega), s46]
    have z0 : (((0 : Nat) : Int) != 0) = false := rfl
    simp only [z0, cond_false]
    rw [sign_ok _ _ (by omega), sX]
    rcases hX with ⟨rfl, rfl⟩ | ⟨b, Y, rfl, hb, hE⟩
    · simp only [z0, cond_false, q3, chk_pos rfl, hbe, Bool.not_true, q2, q1, hc, hs2, Bool.cond_self, w0, qn]
      rw [wrap_id (n := 0 + (((trimL I [48]).length : Int) - ((trimR (trimL I [48]) [48]).length : Int))) (by omega) (by omega)]
      have e0 : -((([] : Str).length : Nat) : Int) + 0 = 0 := rfl
      rw [e0]
      cases neg <;> rfl
    · have zb : ((b.toNat : Int) != 0) = true := by rcases hb with rfl | rfl <;> rfl
      simp only [zb, cond_true, hE, Bool.not_true, cond_false, q3, chk_pos rfl, hbe, q2, q1, hc, hs2, Bool.cond_self, w0, qn]
      rw [wrap_id (n := 0 + ev) (by omega) (by omega), wrap_id (n := 0 + ev + (((trimL I [48]).length : Int) - ((trimR (trimL I [48]) [48]).length : Int))) (by omega) (by omega)]
      have e0 : -((([] : Str).length : Nat) : Int) + ev = 0 + ev := rfl
      rw [e0]
      cases neg <;> rfl
  | true =>
    have hFe := hF0 rfl
    simp only [if_true, List.cons_append, List.nil_append]
    have s46 : signP [46] (46 :: (F ++ X)) = (46, F ++ X) := rfl
    have lFX : (F ++ X).length = F.length + X.length := List.length_append
    rw [sign_ok _ _ (by simp only [List.length_cons]; omega), s46]
    have z46 : (((46 : Nat) : Int) != 0) = true := rfl
    have z0 : (((0 : Nat) : Int) != 0) = false := rfl
    simp only [z46, cond_true]
    rw [digits_ok F X hF (fun b t hb => (hXh b t hb).1) (by omega)]
    have hFn : (F == ([] : Str)) = false := by rw [beq_eq_false_iff_ne]; exact hFe
    rw [hFn, cond_false, chk_pos (dtrue (by omega)), hA, wrap_id (n := 0 - (F.length : Int)) (by omega) (by omega)]
    rw [sign_ok _ _ (by omega), sX]
    rcases hX with ⟨rfl, rfl⟩ | ⟨b, Y, rfl, hb, hE⟩
    · simp only [z0, cond_false, q3, chk_pos rfl, hbe, Bool.not_true, q2, q1, hc, hs2, Bool.cond_self, w0, qn]
      rw [wrap_id (n := 0 - (F.length : Int) + (((trimL all [48]).length : Int) - ((trimR (trimL all [48]) [48]).length : Int))) (by omega) (by omega)]
      have e0 : -(F.length : Int) + 0 = 0 - (F.length : Int) := by omega
      rw [e0]
      cases neg <;> rfl
    · have zb : ((b.toNat : Int) != 0) = true := by rcases hb with rfl | rfl <;> rfl
      simp only [zb, cond_true, hE, Bool.not_true, cond_false, q3, chk_pos rfl, hbe, q2, q1, hc, hs2, Bool.cond_self, w0, qn]
      rw [wrap_id (n := 0 - (F.length : Int) + ev) (by omega) (by omega), wrap_id (n := 0 - (F.length : Int) + ev + (((trimL all [48]).length : Int) - ((trimR (trimL all [48]) [48]).length : Int))) (by omega) (by omega)]
      have e0 : -(F.length : Int) + ev = 0 - (F.length : Int) + ev := by omega
      rw [e0]
      cases neg <;> rfl

theorem uint_app : ∀ (l r : Str) (acc v : Nat), parseUint10 acc l = .ok v → parseUint10 acc (l ++ r) = parseUint10 v r
  | [], r, acc, v, h => by
    simp only [parseUint10] at h
    injection h with h
    subst h
    rfl
  | c :: l, r, acc, v, h => by
    simp only [parseUint10, List.cons_append] at h ⊢
    split at h
    · rename_i h1
      rw [if_pos h1]
      split at h
      · cases h
      · rename_i h2
        rw [if_neg h2]
        split at h
        · cases h
        · rename_i h3
          rw [if_neg h3]
          exact uint_app l r _ v h
    · cases h

theorem uint_dec (u : Nat) (hu : u < 1000000000000000000) : parseUint10 0 (decDigits u) = .ok u := by
  induction u using Nat.strongRecOn with
  | _ u ih =>
    by_cases h : u < 10
    · rw [decDigits, dif_pos h]
      simp only [parseUint10, u8_nat (48 + u) (by omega)]
      rw [if_pos (by omega), if_neg (by omega), if_neg (by omega)]
      congr 1
      omega
    · rw [decDigits, dif_neg h, uint_app _ _ _ _ (ih (u / 10) (by omega) (by omega))]
      simp only [parseUint10, u8_nat (48 + u % 10) (by omega)]
      rw [if_pos (by omega), if_neg (by omega), if_neg (by omega)]
      congr 1
      omega

theorem atoi_dec (u : Nat) (hu : u < 1000000000000000000) : atoiVal (48 :: decDigits u) = (u : Int) := by
  have h1 : parseMag (48 :: decDigits u) = .ok u := by
    unfold parseMag
    rw [if_neg (by simp)]
    have := uint_dec u hu
    simp only [parseUint10]
    exact this
  have h2 : atoiAll (48 :: decDigits u) = .ok (u : Int) := by
    unfold atoiAll
    simp only
    have e : (if (48 : UInt8).toNat = 43 ∨ (48 : UInt8).toNat = 45 then decDigits u else 48 :: decDigits u) = 48 :: decDigits u := if_neg (by decide)
    rw [e, h1]
    simp only
    rw [if_neg (by omega), if_neg (fun h => absurd h.1 (by decide)), if_neg (by decide)]
  unfold atoiVal
  rw [h2]

theorem trimL_z (n : Nat) (r : Str) (hr : ∀ b t, r = b :: t → b ≠ 48) : trimL (zeros n ++ r) [48] = r := by
  unfold trimL
  rw [dropW_app _ _ _ (fun x hx => by have := List.eq_of_mem_replicate hx; subst this; rfl)]
  exact dropW_head _ _ fun b t hb => by simp [hr b t hb]

theorem trimR_z (l : Str) (n : Nat) (b : UInt8) (hb : b ≠ 48) : trimR (l ++ [b] ++ zeros n) [48] = l ++ [b] := by
  unfold trimR
  rw [List.reverse_append, List.reverse_append]
  have e : (zeros n).reverse = zeros n := List.reverse_replicate
  rw [e, dropW_app _ _ _ (fun x hx => by have := List.eq_of_mem_replicate hx; subst this; rfl)]
  have : List.dropWhile (fun x => ([48] : Str).contains x) (([b] : Str).reverse ++ l.reverse) = [b] ++ l.reverse := dropW_head _ _ fun c t hc => by
    have : b = c := by
      have := congrArg List.head? hc
      simpa using this
    subst this
    simp [hb]
  rw [this, List.reverse_append, List.reverse_reverse]
  rfl

theorem trims {u : Nat} (hu : u % 10 ≠ 0) (a b : Nat) : trimL (zeros a ++ (decDigits u ++ zeros b)) [48] = decDigits u ++ zeros b ∧ trimR (decDigits u ++ zeros b) [48] = decDigits u := by
  obtain ⟨x, t, e, hx⟩ := dec_first u (by omega)
  obtain ⟨l, hl⟩ := dec_last u
  constructor
  · apply trimL_z
    intro c t' hc
    rw [e] at hc
    have : x = c := by
      have := congrArg List.head? hc
      simpa using this
    subst this
    rintro rfl
    exact hx rfl
  · rw [hl]
    apply trimR_z
    intro h
    have := congrArg UInt8.toNat h
    rw [u8_nat _ (by omega)] at this
    have e48 : (48 : UInt8).toNat = 48 := rfl
    omega

theorem prt_parts (d : Dcm) (hd : Fm d) (h0 : d.mant ≠ 0) : ∃ (I F : Str) (pt : Bool) (a b : Nat), prt d = (if decide (d.mant < 0) then [45] else []) ++ (I ++ (if pt then 46 :: F else [])) ∧
    I ++ F = zeros a ++ (decDigits d.mant.natAbs ++ zeros b) ∧ I ≠ [] ∧ (1 < I.length → (I.getD 0 0).toNat ≠ 48) ∧ (pt = true → F ≠ []) ∧ (pt = false → F = []) ∧ (F.length : Int) = (b : Int) - d.exp ∧ I.length + F.length ≤ 40 ∧ (∀ x ∈ I, isDig x) ∧ (∀ x ∈ F, isDig x) := by
  have bd := hd.bounds
  have hall := dec_all d.mant.natAbs
  have hlen : (decDigits d.mant.natAbs).length ≤ 16 := by rw [decDigits_length]; exact digits16 (by omega)
  have hpos : 1 ≤ (decDigits d.mant.natAbs).length := by rw [decDigits_length]; exact nDigits_pos _
  obtain ⟨x0, t0, hfirst, hx0⟩ := dec_first d.mant.natAbs (by omega)
  have hsg : (if d.mant < 0 then ([45] : Str) else []) = if decide (d.mant < 0) then [45] else [] := by by_cases h : d.mant < 0 <;> simp [h]
  unfold prt
  rw [hsg]
  generalize decDigits d.mant.natAbs = L at *
  by_cases he : 0 ≤ d.exp
  · refine ⟨L ++ zeros d.exp.toNat, [], false, 0, d.exp.toNat, ?_, by simp [zeros], ?_, fun _ => ?_, by simp, by simp, by simp; omega, ?_, ?_, by simp⟩
    · unfold body; rw [if_pos he]; simp
    · rw [hfirst]; simp
    · rw [hfirst]; exact hx0
    · rw [List.length_append, zeros_len, List.length_nil]; omega
    · intro x hx
      rcases List.mem_append.1 hx with hx | hx
      · exact hall x hx
      · have := List.eq_of_mem_replicate hx
        subst this; unfold isDig; decide
  · have hz : ∃ z : Nat, (max 0 (1 - d.exp - (L.length : Int))).toNat = z := ⟨_, rfl⟩
    obtain ⟨z, hz⟩ := hz
    have tl : (zeros z ++ L).length = z + L.length := by rw [List.length_append, zeros_len]
    have hat : (((zeros z ++ L).length : Int) + d.exp).toNat = (zeros z ++ L).length - d.exp.natAbs := by omega
    have h1 : d.exp.natAbs + 1 ≤ (zeros z ++ L).length := by omega
    have tdig : ∀ x ∈ zeros z ++ L, isDig x := by
      intro x hx
      rcases List.mem_append.1 hx with hx | hx
      · have := List.eq_of_mem_replicate hx
        subst this; unfold isDig; decide
      · exact hall x hx
    have tfirst : z = 0 → ((zeros z ++ L).getD 0 0).toNat ≠ 48 := by
      rintro rfl
      rw [hfirst]
      exact hx0
    refine ⟨(zeros z ++ L).take ((zeros z ++ L).length - d.exp.natAbs), (zeros z ++ L).drop ((zeros z ++ L).length - d.exp.natAbs), true, z, 0, ?_, ?_, ?_, ?_, fun _ => ?_, (fun h => by cases h), ?_, ?_, ?_, ?_⟩
    · unfold body
      rw [if_neg he]
      simp only [hz, hat, if_true]
      simp
    · rw [List.take_append_drop]; simp [zeros]
    · intro e
      have := congrArg List.length e
      rw [List.length_take, List.length_nil] at this
      omega
    · intro hI
      rw [List.length_take] at hI
      have e : ((zeros z ++ L).take ((zeros z ++ L).length - d.exp.natAbs)).getD 0 0 = (zeros z ++ L).getD 0 0 := by
        have := (getD_app_lt (s := (zeros z ++ L).take ((zeros z ++ L).length - d.exp.natAbs)) (t := (zeros z ++ L).drop ((zeros z ++ L).length - d.exp.natAbs)) (i := 0) (by rw [List.length_take]; omega)).symm
        rw [List.take_append_drop] at this
        exact this
      rw [e]
      exact tfirst (by omega)
    · intro e
      have := congrArg List.length e
      rw [List.length_drop, List.length_nil] at this
      omega
    · rw [List.length_drop]; omega
    · rw [List.length_take, List.length_drop]; omega
    · intro x hx; exact tdig x (List.mem_of_mem_take hx)
    · intro x hx; exact tdig x (List.mem_of_mem_drop hx)

theorem parse_zero {R : Type} (k : Dcm → Bool → Option R) : decimal_Parse [48] k = k ⟨0, 0⟩ true := by kernel_rfl
theorem prt_zero : prt ⟨0, 0⟩ = [48] := by
  show [] ++ body (decDigits 0) 0 = [48]
  rw [decDigits_one (by omega)]
  rfl

theorem parse_prt {R : Type} {d : Dcm} (hd : Fm d) (h0 : d.mant ≠ 0) (X : Str) (ev : Int) (hX : (X = [] ∧ ev = 0) ∨ ∃ b Y, X = b :: Y ∧ (b = 101 ∨ b = 69) ∧ ∀ f : Int → Bool → Str → Option R, decimal_reader_exponent_abbd Y f = f ev true [])
    (hev : -1000000 ≤ ev ∧ ev ≤ 1000000) (hXl : X.length ≤ 100) (k : Dcm → Bool → Option R) : decimal_Parse (prt d ++ X) k = decimal_Make d.mant (d.exp + ev) k := by
  have bd := hd.bounds
  obtain ⟨I, F, pt, a, b, e1, e2, i0, i1, f0, f1, fl, il, iD, fD⟩ := prt_parts d hd h0
  obtain ⟨t1, t2⟩ := trims (u := d.mant.natAbs) (tmod_abs (hd.nz h0)) a b
  have hlen : (decDigits d.mant.natAbs).length ≤ 16 := by rw [decDigits_length]; exact digits16 (by omega)
  have key := parse_ok (R := R) (decide (d.mant < 0)) I F X pt ev iD i0 i1 fD f0 f1 hX hev (by
    cases hd2 : decide (d.mant < 0) <;> cases pt <;> simp <;> omega) (by rw [e2, t1, t2]; omega) k
  have e3 : prt d ++ X = (if decide (d.mant < 0) then [45] else []) ++ (I ++ ((if pt then 46 :: F else []) ++ X)) := by rw [e1]; simp only [List.append_assoc]
  rw [e3, key, e2, t1, t2, atoi_dec _ (by omega)]
  have e4 : (if decide (d.mant < 0) = true then IntKind.i64.wrap (0 - (d.mant.natAbs : Int)) else (d.mant.natAbs : Int)) = d.mant := by
    by_cases h : d.mant < 0
    · rw [if_pos (by rw [dtrue h]), wrap_id (by omega) (by omega)]; omega
    · rw [if_neg (by rw [dfalse h]; simp)]; omega
  have e5 : -(F.length : Int) + ev + (((decDigits d.mant.natAbs ++ zeros b).length : Int) - ((decDigits d.mant.natAbs).length : Int)) = d.exp + ev := by
    rw [List.length_append, zeros_len]
    omega
  rw [e4, e5]

theorem make_same {R : Type} {d : Dcm} (hd : Fm d) (h0 : d.mant ≠ 0) (k : Dcm → Bool → Option R) : decimal_Make d.mant d.exp k = k d true := by
  have bd := hd.bounds
  obtain ⟨r, hr, hm⟩ := make_any (R := R) d.mant d.exp (by unfold I64; omega) (by omega) (by omega)
  have e5 : d.mant = d.mant * 10 ^ 0 := by simp
  rw [e5] at hr
  rw [hm, made_same hd h0 (j := 0) (x := d.exp) (by omega) hr]

end Go.Proofs.YtmlkkgfenfdndaaGreatDoor

set_option linter.unusedVariables false
set_option maxRecDepth 100000
namespace Go.Proofs.YtmlkkgfenfdndaaGreatDoor
open Go Go.Yard Go.Lib

end Go.Proofs.YtmlkkgfenfdndaaGreatDoor

