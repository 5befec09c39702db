/-
  QuoteTells: for every input whose bulk is at most 1048576 the law returns true, and each argument reads behind the call as it read before; part 8 of 9 of the proof: an interpreter of the model's code over typed data, proved sound; the functions that the law reaches, printed as Lean functions and tied; the plain law. Own texts laid one behind the other.
-/
import Derived.KernelRfl
import Derived.Test.YtifgegmnngfckaaDoorQuoteTellsB7
set_option linter.unusedSimpArgs false
set_option linter.unnecessarySimpa false
set_option linter.unusedVariables false
set_option linter.unusedSectionVars false
/-
  Functions of the program as pure Lean functions, and the ties; printed by wip/tools/emit.py.
-/
set_option maxRecDepth 100000
set_option linter.unusedVariables false
namespace Go.Proofs.YtifgegmnngfckaaDoor
open Go Go.Yard

/-! ### humpyard/quote.Unquote -/
abbrev quote_Unquote_ty (R : Type) : Type := Str → (Str → Int → Bool → Option R) → Option R
abbrev quote_Unquote_p : List Pat := [.leaf (.str)]
abbrev quote_Unquote_q : List HPat := []
noncomputable def quote_Unquote_rr {R : Type} (fn : quote_Unquote_ty R) : Pat.dens quote_Unquote_p → HPat.dens quote_Unquote_q → (V → Heap → Option R) → Option R := fun x y k => fn x.1 (fun q0 q1 q2 => k (.tuple [.str q0, .int .i64 q1, .bool q2]) [])
abbrev quote_Unquote_5_0_ty (R : Type) : Type := Nat → Str → Str → (List Int) → (Str → Str → (List Int) → Option R) → (Str → Str → Int → Bool → Str → (List Int) → Option R) → Option R
noncomputable def quote_Unquote_E (R : Type) (strings_Builder_WriteRune_dc6e : strings_Builder_WriteRune_dc6e_ty R) (quote_reader_skip_e74a : quote_reader_skip_e74a_ty R) (quote_reader_plain_abbd : quote_reader_plain_abbd_ty R) (quote_reader_escaped_abbd : quote_reader_escaped_abbd_ty R) : Env R := fun i => match i with
  | 48 => some (false, (specBy strings_Builder_WriteRune_dc6e_p strings_Builder_WriteRune_dc6e_q (strings_Builder_WriteRune_dc6e_rr strings_Builder_WriteRune_dc6e) specNo))
  | 49 => some (false, (bstr_S R))
  | 50 => some (false, (specBy quote_reader_skip_e74a_p quote_reader_skip_e74a_q (quote_reader_skip_e74a_rr quote_reader_skip_e74a) specNo))
  | 51 => some (false, (specBy quote_reader_plain_abbd_p quote_reader_plain_abbd_q (quote_reader_plain_abbd_rr quote_reader_plain_abbd) specNo))
  | 52 => some (false, (specBy quote_reader_escaped_abbd_p quote_reader_escaped_abbd_q (quote_reader_escaped_abbd_rr quote_reader_escaped_abbd) specNo))
  | _ => none
theorem quote_Unquote_EOk (R : Type) : EOk Tryd.prog (quote_Unquote_E R strings_Builder_WriteRune_dc6e quote_reader_skip_e74a quote_reader_plain_abbd quote_reader_escaped_abbd) := by
  intro i b sp h
  unfold quote_Unquote_E at h
  split at h
  · cases h; exact ⟨(strings_Builder_WriteRune_dc6e_S_ok R _ (specNo_ok _)), fun _ h => nomatch h⟩
  · cases h; exact ⟨(bstr_is), fun _ _ => bstr_soft⟩
  · cases h; exact ⟨(quote_reader_skip_e74a_S_ok R _ (specNo_ok _)), fun _ h => nomatch h⟩
  · cases h; exact ⟨(quote_reader_plain_abbd_S_ok R _ (specNo_ok _)), fun _ h => nomatch h⟩
  · cases h; exact ⟨(quote_reader_escaped_abbd_S_ok R _ (specNo_ok _)), fun _ h => nomatch h⟩
  · cases h

noncomputable def quote_Unquote_5_0_B {R : Type} (strings_Builder_WriteRune_dc6e : strings_Builder_WriteRune_dc6e_ty R) (quote_reader_skip_e74a : quote_reader_skip_e74a_ty R) (quote_reader_plain_abbd : quote_reader_plain_abbd_ty R) (quote_reader_escaped_abbd : quote_reader_escaped_abbd_ty R) (rec' : Str → Str → (List Int) → Option R) (x4 : Str) (x5 : Str) (x6 : List Int) (e0 : Str → Str → (List Int) → Option R) (e1 : Str → Str → Int → Bool → Str → (List Int) → Option R) : Option R :=
  quote_reader_skip_e74a ([34] : Str) x5 (fun y7 y8 => bif (!y7) then (quote_reader_skip_e74a ([92] : Str) y8 (fun y9 y10 => bif y9 then (quote_reader_escaped_abbd y10 (fun y11 y12 => bif (decide (y11 < (0 : Int))) then (e1 x4 ([] : Str) 0 false y12 x6) else (strings_Builder_WriteRune_dc6e y11 x6 (fun y13 y14 => rec' x4 y12 y14)))) else (quote_reader_plain_abbd y10 (fun y15 y16 => bif (decide (y15 < (0 : Int))) then (e1 x4 ([] : Str) 0 false y16 x6) else (strings_Builder_WriteRune_dc6e y15 x6 (fun y17 y18 => rec' x4 y16 y18)))))) else (e0 x4 y8 x6))
noncomputable def quote_Unquote_5_0_L {R : Type} : quote_Unquote_5_0_ty R
  | 0, _, _, _, _, _ => none
  | n + 1, x0', x1', x2', e0, e1 => quote_Unquote_5_0_B strings_Builder_WriteRune_dc6e quote_reader_skip_e74a quote_reader_plain_abbd quote_reader_escaped_abbd (fun x0' x1' x2' => quote_Unquote_5_0_L n x0' x1' x2' e0 e1) x0' x1' x2' e0 e1
noncomputable def quote_Unquote_5_0_h : Hint := { live := [0, 5, 6], own := [], rows := [], cells := [(1, 1, (.int .u8), false)], drop := [], out := [0, 2, 3, 4, 5, 6] }
abbrev quote_Unquote_5_0_D : Type := Str × Str × (List Int)
noncomputable def quote_Unquote_5_0_enc : quote_Unquote_5_0_D → St := fun d => ⟨[.str d.1, .undef, .undef, .undef, .undef, .ptr 0 0, .ptr 1 0, .undef, .undef, .undef, .undef, .undef, .undef, .undef, .undef, .undef, .undef, .undef, .undef, .undef, .undef, .undef, .undef, .undef, .undef, .undef, .undef, .undef, .undef, .undef, .undef, .undef, .undef, .undef, .undef, .undef, .undef, .undef, .undef], [.cells [.str d.2.1], .bld (.sl (.int .u8) d.2.2 (.own 2)), .tok]⟩
noncomputable def quote_Unquote_5_0_x0 {R : Type} (K : Ex → St → Option R) (q0 : Str) (q1 : Str) (q2 : List Int) : Option R := K (.exit 0) ⟨[.str q0, .undef, .undef, .undef, .undef, .ptr 0 0, .ptr 1 0, .undef, .undef, .undef, .undef, .undef, .undef, .undef, .undef, .undef, .undef, .undef, .undef, .undef, .undef, .undef, .undef, .undef, .undef, .undef, .undef, .undef, .undef, .undef, .undef, .undef, .undef, .undef, .undef, .undef, .undef, .undef, .undef], [.cells [.str q1], .bld (.sl (.int .u8) q2 (.own 2)), .tok]⟩
noncomputable def quote_Unquote_5_0_x1 {R : Type} (K : Ex → St → Option R) (q0 : Str) (q1 : Str) (q2 : Int) (q3 : Bool) (q4 : Str) (q5 : List Int) : Option R := K (.ret) ⟨[.str q0, .undef, .str q1, .int .i64 q2, .bool q3, .ptr 0 0, .ptr 1 0, .undef, .undef, .undef, .undef, .undef, .undef, .undef, .undef, .undef, .undef, .undef, .undef, .undef, .undef, .undef, .undef, .undef, .undef, .undef, .undef, .undef, .undef, .undef, .undef, .undef, .undef, .undef, .undef, .undef, .undef, .undef, .undef], [.cells [.str q4], .bld (.sl (.int .u8) q5 (.own 2)), .tok]⟩
noncomputable def quote_Unquote_5_0_s {R : Type} (strings_Builder_WriteRune_dc6e : strings_Builder_WriteRune_dc6e_ty R) (quote_reader_skip_e74a : quote_reader_skip_e74a_ty R) (quote_reader_plain_abbd : quote_reader_plain_abbd_ty R) (quote_reader_escaped_abbd : quote_reader_escaped_abbd_ty R) (K : Ex → St → Option R) (rc : quote_Unquote_5_0_D → Option R) (d : quote_Unquote_5_0_D) : Option R := quote_Unquote_5_0_B strings_Builder_WriteRune_dc6e quote_reader_skip_e74a quote_reader_plain_abbd quote_reader_escaped_abbd (fun z0 z1 z2 => rc (z0, z1, z2)) d.1 d.2.1 d.2.2 (quote_Unquote_5_0_x0 K) (quote_Unquote_5_0_x1 K)
noncomputable def quote_Unquote_5_0_A {R : Type} (K : Ex → St → Option R) (n : Nat) (d : quote_Unquote_5_0_D) : Option R := quote_Unquote_5_0_L n d.1 d.2.1 d.2.2 (quote_Unquote_5_0_x0 K) (quote_Unquote_5_0_x1 K)
abbrev quote_Unquote_5_0_p : List Pat := [.leaf (.str), .leaf (.undef), .leaf (.undef), .leaf (.undef), .leaf (.undef), .leaf (.ptr 0 0), .leaf (.ptr 1 0), .leaf (.undef), .leaf (.undef), .leaf (.undef), .leaf (.undef), .leaf (.undef), .leaf (.undef), .leaf (.undef), .leaf (.undef), .leaf (.undef), .leaf (.undef), .leaf (.undef), .leaf (.undef), .leaf (.undef), .leaf (.undef), .leaf (.undef), .leaf (.undef), .leaf (.undef), .leaf (.undef), .leaf (.undef), .leaf (.undef), .leaf (.undef), .leaf (.undef), .leaf (.undef), .leaf (.undef), .leaf (.undef), .leaf (.undef), .leaf (.undef), .leaf (.undef), .leaf (.undef), .leaf (.undef), .leaf (.undef), .leaf (.undef)]
abbrev quote_Unquote_5_0_q : List HPat := [.cells [.str], .bld (.slo (.int .u8) 2), .tok]
noncomputable def quote_Unquote_5_0_f (x : Pat.dens quote_Unquote_5_0_p) (y : HPat.dens quote_Unquote_5_0_q) : Nat := (List.length x.1 + List.length y.1.1 + List.length y.2.1 + 64)
noncomputable def quote_Unquote_5_0_d (x : Pat.dens quote_Unquote_5_0_p) (y : HPat.dens quote_Unquote_5_0_q) : quote_Unquote_5_0_D := (x.1, y.1.1, y.2.1)
noncomputable def quote_Unquote_5_0_rr {R : Type} (L : quote_Unquote_5_0_ty R) : Pat.dens quote_Unquote_5_0_p → HPat.dens quote_Unquote_5_0_q → (Ex → St → Option R) → Option R := fun x y K => L (quote_Unquote_5_0_f x y) x.1 y.1.1 y.2.1 (quote_Unquote_5_0_x0 K) (quote_Unquote_5_0_x1 K)
noncomputable def quote_Unquote_T (R : Type) (quote_Unquote_5_0_L : quote_Unquote_5_0_ty R) : Nat → Option (Hint × LSpec R) := fun i => match i with
  | 5 => some (quote_Unquote_5_0_h, (loopBy quote_Unquote_5_0_p quote_Unquote_5_0_q (quote_Unquote_5_0_rr quote_Unquote_5_0_L) loopNo))
  | _ => none

theorem quote_Unquote_5_0_B_ok {R : Type} (strings_Builder_WriteRune_dc6e : strings_Builder_WriteRune_dc6e_ty R) (quote_reader_skip_e74a : quote_reader_skip_e74a_ty R) (quote_reader_plain_abbd : quote_reader_plain_abbd_ty R) (quote_reader_escaped_abbd : quote_reader_escaped_abbd_ty R) (quote_Unquote_5_0_L : quote_Unquote_5_0_ty R) (K : Ex → St → Option R) (rc : St → Option R) (d : quote_Unquote_5_0_D) : roundOf tt (quote_Unquote_E R strings_Builder_WriteRune_dc6e quote_reader_skip_e74a quote_reader_plain_abbd quote_reader_escaped_abbd) (quote_Unquote_T R quote_Unquote_5_0_L) 0 ((loopsOf (codeOf Tryd.f22)).getD 0 .skip) quote_Unquote_5_0_h (quote_Unquote_5_0_enc d) rc K = quote_Unquote_5_0_s strings_Builder_WriteRune_dc6e quote_reader_skip_e74a quote_reader_plain_abbd quote_reader_escaped_abbd K (fun d => rc (quote_Unquote_5_0_enc d)) d := by kernel_rfl
theorem quote_Unquote_5_0_A_succ {R : Type} (K : Ex → St → Option R) (n : Nat) (d : quote_Unquote_5_0_D) : quote_Unquote_5_0_A K (n + 1) d = quote_Unquote_5_0_s strings_Builder_WriteRune_dc6e quote_reader_skip_e74a quote_reader_plain_abbd quote_reader_escaped_abbd K (quote_Unquote_5_0_A K n) d := by kernel_rfl
theorem quote_Unquote_5_0_A_zero {R : Type} (K : Ex → St → Option R) (d : quote_Unquote_5_0_D) : quote_Unquote_5_0_A K 0 d = none := by kernel_rfl
theorem quote_Unquote_5_0_e_ok (x : Pat.dens quote_Unquote_5_0_p) (y : HPat.dens quote_Unquote_5_0_q) : (⟨Pat.encL quote_Unquote_5_0_p x, HPat.encL quote_Unquote_5_0_q y⟩ : St) = quote_Unquote_5_0_enc (quote_Unquote_5_0_d x y) := by kernel_rfl
theorem quote_Unquote_5_0_r_ok {R : Type} (x : Pat.dens quote_Unquote_5_0_p) (y : HPat.dens quote_Unquote_5_0_q) (K : Ex → St → Option R) : quote_Unquote_5_0_rr (quote_Unquote_5_0_L) x y K = quote_Unquote_5_0_A K (quote_Unquote_5_0_f x y) (quote_Unquote_5_0_d x y) := by kernel_rfl
theorem quote_Unquote_5_0_ok {R : Type} (other : LSpec R) (ho : LsOk tt (quote_Unquote_E R strings_Builder_WriteRune_dc6e quote_reader_skip_e74a quote_reader_plain_abbd quote_reader_escaped_abbd) (quote_Unquote_T R quote_Unquote_5_0_L) 0 ((loopsOf (codeOf Tryd.f22)).getD 0 .skip) quote_Unquote_5_0_h other) : LsOk tt (quote_Unquote_E R strings_Builder_WriteRune_dc6e quote_reader_skip_e74a quote_reader_plain_abbd quote_reader_escaped_abbd) (quote_Unquote_T R quote_Unquote_5_0_L) 0 ((loopsOf (codeOf Tryd.f22)).getD 0 .skip) quote_Unquote_5_0_h (loopBy quote_Unquote_5_0_p quote_Unquote_5_0_q (quote_Unquote_5_0_rr (quote_Unquote_5_0_L)) other) :=
  loopBy_tie (A := quote_Unquote_5_0_A) ho (loop_tie quote_Unquote_5_0_enc (quote_Unquote_5_0_s strings_Builder_WriteRune_dc6e quote_reader_skip_e74a quote_reader_plain_abbd quote_reader_escaped_abbd) (quote_Unquote_5_0_A) (quote_Unquote_5_0_A_zero) (quote_Unquote_5_0_B_ok strings_Builder_WriteRune_dc6e quote_reader_skip_e74a quote_reader_plain_abbd quote_reader_escaped_abbd quote_Unquote_5_0_L) (quote_Unquote_5_0_A_succ)) quote_Unquote_5_0_f quote_Unquote_5_0_d quote_Unquote_5_0_e_ok (quote_Unquote_5_0_r_ok)

noncomputable def quote_Unquote_X {R : Type} (quote_reader_skip_e74a : quote_reader_skip_e74a_ty R) (quote_Unquote_5_0_L : quote_Unquote_5_0_ty R) (x1 : Str) (k0 : Str → Int → Bool → Option R) : Option R :=
  quote_reader_skip_e74a ([34] : Str) x1 (fun y2 y3 => bif (!y2) then (k0 ([] : Str) 0 false) else (quote_Unquote_5_0_L (List.length x1 + List.length y3 + List.length ([] : List Int) + 64) x1 y3 ([] : List Int) (fun y19 y20 y21 => k0 (bstr y21) (IntKind.i64.wrap ((y19.length : Int) - (y20.length : Int))) true) (fun y22 y23 y24 y25 y26 y27 => k0 y23 y24 y25)))
noncomputable def quote_Unquote {R : Type} : quote_Unquote_ty R := fun x1 k0 => quote_Unquote_X quote_reader_skip_e74a quote_Unquote_5_0_L x1 k0
theorem quote_Unquote_ok {R : Type} (strings_Builder_WriteRune_dc6e : strings_Builder_WriteRune_dc6e_ty R) (quote_reader_skip_e74a : quote_reader_skip_e74a_ty R) (quote_reader_plain_abbd : quote_reader_plain_abbd_ty R) (quote_reader_escaped_abbd : quote_reader_escaped_abbd_ty R) (quote_Unquote_5_0_L : quote_Unquote_5_0_ty R) (x1 : Str) (k : V → Heap → Option R) : funK tt (quote_Unquote_E R strings_Builder_WriteRune_dc6e quote_reader_skip_e74a quote_reader_plain_abbd quote_reader_escaped_abbd) (quote_Unquote_T R quote_Unquote_5_0_L) false Tryd.f22 (codeOf Tryd.f22) [.str x1] [] k =
    quote_Unquote_X quote_reader_skip_e74a quote_Unquote_5_0_L x1 (fun q0 q1 q2 => k (.tuple [.str q0, .int .i64 q1, .bool q2]) []) := by kernel_rfl
theorem quote_Unquote_loops (R : Type) : ∀ a ∈ loopsOf (codeOf Tryd.f22), LoopOk tt (quote_Unquote_E R strings_Builder_WriteRune_dc6e quote_reader_skip_e74a quote_reader_plain_abbd quote_reader_escaped_abbd) (quote_Unquote_T R quote_Unquote_5_0_L) 0 a := by
  refine loops_ok 1 (by kernel_rfl) fun i hi => ?_
  match i, hi with
  | 0, _ => exact loopOk_some (by kernel_rfl) (quote_Unquote_5_0_ok _ loopNo_ok)
  | n + 1, hi => omega
theorem quote_Unquote_S_ok (R : Type) (other : Yard.Spec R) (ho : Yard.Spec.Ok Tryd.prog 22 other) : Yard.Spec.Ok Tryd.prog 22 (specBy quote_Unquote_p quote_Unquote_q (quote_Unquote_rr quote_Unquote) other) :=
  specBy_ok ho (funK_sound TT mixed (quote_Unquote_EOk R) (keep := false) rfl rfl rfl rfl 0 (quote_Unquote_loops R)) fun (x : Pat.dens quote_Unquote_p) (y : HPat.dens quote_Unquote_q) k => quote_Unquote_ok strings_Builder_WriteRune_dc6e quote_reader_skip_e74a quote_reader_plain_abbd quote_reader_escaped_abbd quote_Unquote_5_0_L x.1 k

/-! ### humpyard/humpyardlaw02.awake -/
abbrev law02_awake_ty (R : Type) : Type := (Bool → Option R) → Option R
abbrev law02_awake_p : List Pat := []
abbrev law02_awake_q : List HPat := []
noncomputable def law02_awake_rr {R : Type} (fn : law02_awake_ty R) : Pat.dens law02_awake_p → HPat.dens law02_awake_q → (V → Heap → Option R) → Option R := fun x y k => fn (fun q0 => k (.bool q0) [])
noncomputable def law02_awake_E (R : Type) (quote_Quote : quote_Quote_ty R) (quote_Unquote : quote_Unquote_ty R) (quote_Whole : quote_Whole_ty R) : Env R := fun i => match i with
  | 21 => some (true, (specBy quote_Quote_p quote_Quote_q (quote_Quote_rr quote_Quote) specNo))
  | 22 => some (true, (specBy quote_Unquote_p quote_Unquote_q (quote_Unquote_rr quote_Unquote) specNo))
  | 24 => some (true, (specBy quote_Whole_p quote_Whole_q (quote_Whole_rr quote_Whole) specNo))
  | _ => none
theorem law02_awake_EOk (R : Type) : EOk Tryd.prog (law02_awake_E R quote_Quote quote_Unquote quote_Whole) := by
  intro i b sp h
  unfold law02_awake_E at h
  split at h
  · cases h; exact ⟨(quote_Quote_S_ok R _ (specNo_ok _)), fun h => nomatch h⟩
  · cases h; exact ⟨(quote_Unquote_S_ok R _ (specNo_ok _)), fun h => nomatch h⟩
  · cases h; exact ⟨(quote_Whole_S_ok R _ (specNo_ok _)), fun h => nomatch h⟩
  · cases h

noncomputable def law02_awake_T (R : Type) : Nat → Option (Hint × LSpec R) := fun i => match i with
  | _ => none

noncomputable def law02_awake_X {R : Type} (quote_Quote : quote_Quote_ty R) (quote_Unquote : quote_Unquote_ty R) (quote_Whole : quote_Whole_ty R) (k0 : Bool → Option R) : Option R :=
  quote_Quote ([97, 34, 1] : Str) (fun y1 y2 => quote_Unquote ([34, 92, 117, 100, 56, 51, 100, 92, 117, 100, 101, 48, 48, 34, 120] : Str) (fun y3 y4 y5 => bif y2 then (bif (y1 == ([34, 97, 92, 34, 92, 117, 48, 48, 48, 49, 34] : Str)) then (bif y5 then (bif (y4 == 14) then (bif (y3 == ([240, 159, 152, 128] : Str)) then (quote_Whole y3 (fun y6 => bif y6 then (quote_Whole ([255] : Str) (fun y7 => k0 (!y7))) else (k0 false))) else (k0 false)) else (k0 false)) else (k0 false)) else (k0 false)) else (k0 false)))
noncomputable def law02_awake {R : Type} : law02_awake_ty R := fun  k0 => law02_awake_X quote_Quote quote_Unquote quote_Whole  k0
theorem law02_awake_ok {R : Type} (quote_Quote : quote_Quote_ty R) (quote_Unquote : quote_Unquote_ty R) (quote_Whole : quote_Whole_ty R) (k : V → Heap → Option R) : funK tt (law02_awake_E R quote_Quote quote_Unquote quote_Whole) (law02_awake_T R) false Tryd.f17 (codeOf Tryd.f17) [] [] k =
    law02_awake_X quote_Quote quote_Unquote quote_Whole  (fun q0 => k (.bool q0) []) := by kernel_rfl
theorem law02_awake_loops (R : Type) : ∀ a ∈ loopsOf (codeOf Tryd.f17), LoopOk tt (law02_awake_E R quote_Quote quote_Unquote quote_Whole) (law02_awake_T R) 0 a := by
  refine loops_ok 0 (by kernel_rfl) fun i hi => ?_
  omega
theorem law02_awake_S_ok (R : Type) (other : Yard.Spec R) (ho : Yard.Spec.Ok Tryd.prog 17 other) : Yard.Spec.Ok Tryd.prog 17 (specBy law02_awake_p law02_awake_q (law02_awake_rr law02_awake) other) :=
  specBy_ok ho (funK_sound TT mixed (law02_awake_EOk R) (keep := false) rfl rfl rfl rfl 0 (law02_awake_loops R)) fun (x : Pat.dens law02_awake_p) (y : HPat.dens law02_awake_q) k => law02_awake_ok quote_Quote quote_Unquote quote_Whole  k

/-! ### humpyard/humpyardlaw02.pick -/
abbrev law02_pick_ty (R : Type) : Type := Int → Int → (Int → Option R) → Option R
abbrev law02_pick_p : List Pat := [.leaf (.int .i64), .leaf (.int .i64)]
abbrev law02_pick_q : List HPat := []
noncomputable def law02_pick_rr {R : Type} (fn : law02_pick_ty R) : Pat.dens law02_pick_p → HPat.dens law02_pick_q → (V → Heap → Option R) → Option R := fun x y k => fn x.1 x.2.1 (fun q0 => k (.int .i64 q0) [])
noncomputable def law02_pick_E (R : Type) : Env R := fun i => match i with
  | _ => none
theorem law02_pick_EOk (R : Type) : EOk Tryd.prog (law02_pick_E R) := by
  intro i b sp h
  unfold law02_pick_E at h
  split at h
  · cases h

noncomputable def law02_pick_T (R : Type) : Nat → Option (Hint × LSpec R) := fun i => match i with
  | _ => none

noncomputable def law02_pick_X {R : Type} (x1 : Int) (x2 : Int) (k0 : Int → Option R) : Option R :=
  bif (decide (x1 < (0 : Int))) then (chk (!decide (x2 = 0)) (k0 (Int.tmod (IntKind.i64.wrap (0 - (IntKind.i64.wrap (x1 + 1)))) x2))) else (chk (!decide (x2 = 0)) (k0 (Int.tmod x1 x2)))
noncomputable def law02_pick {R : Type} : law02_pick_ty R := fun x1 x2 k0 => law02_pick_X x1 x2 k0
theorem law02_pick_ok {R : Type} (x1 : Int) (x2 : Int) (k : V → Heap → Option R) : funK tt (law02_pick_E R) (law02_pick_T R) false Tryd.f20 (codeOf Tryd.f20) [.int .i64 x1, .int .i64 x2] [] k =
    law02_pick_X x1 x2 (fun q0 => k (.int .i64 q0) []) := by kernel_rfl
theorem law02_pick_loops (R : Type) : ∀ a ∈ loopsOf (codeOf Tryd.f20), LoopOk tt (law02_pick_E R) (law02_pick_T R) 0 a := by
  refine loops_ok 0 (by kernel_rfl) fun i hi => ?_
  omega
theorem law02_pick_S_ok (R : Type) (other : Yard.Spec R) (ho : Yard.Spec.Ok Tryd.prog 20 other) : Yard.Spec.Ok Tryd.prog 20 (specBy law02_pick_p law02_pick_q (law02_pick_rr law02_pick) other) :=
  specBy_ok ho (funK_sound TT mixed (law02_pick_EOk R) (keep := false) rfl rfl rfl rfl 0 (law02_pick_loops R)) fun (x : Pat.dens law02_pick_p) (y : HPat.dens law02_pick_q) k => law02_pick_ok x.1 x.2.1 k

/-! ### humpyard/humpyardlaw02.Text -/
abbrev law02_Text_ty (R : Type) : Type := (List Int) → (Str → Option R) → Option R
abbrev law02_Text_p : List Pat := [.leaf (.sl (.int .i64))]
abbrev law02_Text_q : List HPat := []
noncomputable def law02_Text_rr {R : Type} (fn : law02_Text_ty R) : Pat.dens law02_Text_p → HPat.dens law02_Text_q → (V → Heap → Option R) → Option R := fun x y k => fn x.1 (fun q0 => k (.str q0) [])
abbrev law02_Text_3_0_ty (R : Type) : Type := Nat → (List Int) → Str → Int → (Str → Option R) → Option R
noncomputable def law02_Text_E (R : Type) (law02_pick : law02_pick_ty R) : Env R := fun i => match i with
  | 20 => some (true, (specBy law02_pick_p law02_pick_q (law02_pick_rr law02_pick) specNo))
  | _ => none
theorem law02_Text_EOk (R : Type) : EOk Tryd.prog (law02_Text_E R law02_pick) := by
  intro i b sp h
  unfold law02_Text_E at h
  split at h
  · cases h; exact ⟨(law02_pick_S_ok R _ (specNo_ok _)), fun h => nomatch h⟩
  · cases h

noncomputable def law02_Text_3_0_B {R : Type} (law02_pick : law02_pick_ty R) (rec' : (List Int) → Str → Int → Option R) (x2 : List Int) (x3 : Str) (x4 : Int) (e0 : Str → Option R) : Option R :=
  bif (decide (x4 < (x2.length : Int))) then (bif (decide (x4 < (200 : Int))) then (chk (decide ((0 : Int) ≤ x4) && decide (x4 < x2.length)) (let j16 := fun (z13 : Int) => bif (decide (z13 ≥ (55296 : Int))) then (bif (decide (z13 ≤ (57343 : Int))) then (chk (decide (x3.length + (runesB ([120] : List Int)).length ≤ 9223372036854775807)) (rec' x2 (x3 ++ (runesB ([120] : List Int))) (IntKind.i64.wrap (x4 + 1)))) else (chk (decide (x3.length + (runesB ([(IntKind.i32.wrap z13)] : List Int)).length ≤ 9223372036854775807)) (rec' x2 (x3 ++ (runesB ([(IntKind.i32.wrap z13)] : List Int))) (IntKind.i64.wrap (x4 + 1))))) else (chk (decide (x3.length + (runesB ([(IntKind.i32.wrap z13)] : List Int)).length ≤ 9223372036854775807)) (rec' x2 (x3 ++ (runesB ([(IntKind.i32.wrap z13)] : List Int))) (IntKind.i64.wrap (x4 + 1)))); law02_pick (x2.getD x4.toNat (Ty.dflt (.int .i64))) 5 (fun y6 => let j12 := fun (z7 : Bool) => bif z7 then (law02_pick (IntKind.i64.wrap (Int.tdiv (x2.getD x4.toNat (Ty.dflt (.int .i64))) 5)) 128 (fun y8 => j16 y8)) else (bif (y6 == 2) then (law02_pick (IntKind.i64.wrap (Int.tdiv (x2.getD x4.toNat (Ty.dflt (.int .i64))) 5)) 2048 (fun y9 => j16 y9)) else (bif (y6 == 3) then (law02_pick (IntKind.i64.wrap (Int.tdiv (x2.getD x4.toNat (Ty.dflt (.int .i64))) 5)) 65536 (fun y10 => j16 y10)) else (law02_pick (IntKind.i64.wrap (Int.tdiv (x2.getD x4.toNat (Ty.dflt (.int .i64))) 5)) 1114112 (fun y11 => j16 y11)))); bif (y6 == 0) then (j12 (y6 == 0)) else (j12 (y6 == 1))))) else (e0 x3)) else (e0 x3)
noncomputable def law02_Text_3_0_L {R : Type} : law02_Text_3_0_ty R
  | 0, _, _, _, _ => none
  | n + 1, x0', x1', x2', e0 => law02_Text_3_0_B law02_pick (fun x0' x1' x2' => law02_Text_3_0_L n x0' x1' x2' e0) x0' x1' x2' e0
noncomputable def law02_Text_3_0_h : Hint := { live := [0, 3, 4], own := [], rows := [], cells := [], drop := [], out := [2, 3] }
abbrev law02_Text_3_0_D : Type := (List Int) × Str × Int
noncomputable def law02_Text_3_0_enc : law02_Text_3_0_D → St := fun d => ⟨[.sl (.int .i64) d.1 .no, .undef, .undef, .str d.2.1, .int .i64 d.2.2, .undef, .undef, .undef, .undef, .undef, .undef, .undef, .undef, .undef, .undef, .undef, .undef, .undef, .undef, .undef, .undef, .undef, .undef, .undef, .undef, .undef, .undef, .undef, .undef, .undef, .undef, .undef, .undef, .undef, .undef, .undef, .undef, .undef, .undef, .undef, .undef, .undef, .undef, .undef, .undef, .undef, .undef, .undef, .undef, .undef, .undef, .undef, .undef, .undef, .undef], []⟩
noncomputable def law02_Text_3_0_x0 {R : Type} (K : Ex → St → Option R) (q0 : Str) : Option R := K (.exit 0) ⟨[.undef, .undef, .undef, .str q0, .undef, .undef, .undef, .undef, .undef, .undef, .undef, .undef, .undef, .undef, .undef, .undef, .undef, .undef, .undef, .undef, .undef, .undef, .undef, .undef, .undef, .undef, .undef, .undef, .undef, .undef, .undef, .undef, .undef, .undef, .undef, .undef, .undef, .undef, .undef, .undef, .undef, .undef, .undef, .undef, .undef, .undef, .undef, .undef, .undef, .undef, .undef, .undef, .undef, .undef, .undef], []⟩
noncomputable def law02_Text_3_0_s {R : Type} (law02_pick : law02_pick_ty R) (K : Ex → St → Option R) (rc : law02_Text_3_0_D → Option R) (d : law02_Text_3_0_D) : Option R := law02_Text_3_0_B law02_pick (fun z0 z1 z2 => rc (z0, z1, z2)) d.1 d.2.1 d.2.2 (law02_Text_3_0_x0 K)
noncomputable def law02_Text_3_0_A {R : Type} (K : Ex → St → Option R) (n : Nat) (d : law02_Text_3_0_D) : Option R := law02_Text_3_0_L n d.1 d.2.1 d.2.2 (law02_Text_3_0_x0 K)
abbrev law02_Text_3_0_p : List Pat := [.leaf (.sl (.int .i64)), .leaf (.undef), .leaf (.undef), .leaf (.str), .leaf (.int .i64), .leaf (.undef), .leaf (.undef), .leaf (.undef), .leaf (.undef), .leaf (.undef), .leaf (.undef), .leaf (.undef), .leaf (.undef), .leaf (.undef), .leaf (.undef), .leaf (.undef), .leaf (.undef), .leaf (.undef), .leaf (.undef), .leaf (.undef), .leaf (.undef), .leaf (.undef), .leaf (.undef), .leaf (.undef), .leaf (.undef), .leaf (.undef), .leaf (.undef), .leaf (.undef), .leaf (.undef), .leaf (.undef), .leaf (.undef), .leaf (.undef), .leaf (.undef), .leaf (.undef), .leaf (.undef), .leaf (.undef), .leaf (.undef), .leaf (.undef), .leaf (.undef), .leaf (.undef), .leaf (.undef), .leaf (.undef), .leaf (.undef), .leaf (.undef), .leaf (.undef), .leaf (.undef), .leaf (.undef), .leaf (.undef), .leaf (.undef), .leaf (.undef), .leaf (.undef), .leaf (.undef), .leaf (.undef), .leaf (.undef), .leaf (.undef)]
abbrev law02_Text_3_0_q : List HPat := []
noncomputable def law02_Text_3_0_f (x : Pat.dens law02_Text_3_0_p) (y : HPat.dens law02_Text_3_0_q) : Nat := (List.length x.1 + List.length x.2.2.2.1 + Int.natAbs x.2.2.2.2.1 + 64)
noncomputable def law02_Text_3_0_d (x : Pat.dens law02_Text_3_0_p) (y : HPat.dens law02_Text_3_0_q) : law02_Text_3_0_D := (x.1, x.2.2.2.1, x.2.2.2.2.1)
noncomputable def law02_Text_3_0_rr {R : Type} (L : law02_Text_3_0_ty R) : Pat.dens law02_Text_3_0_p → HPat.dens law02_Text_3_0_q → (Ex → St → Option R) → Option R := fun x y K => L (law02_Text_3_0_f x y) x.1 x.2.2.2.1 x.2.2.2.2.1 (law02_Text_3_0_x0 K)
noncomputable def law02_Text_T (R : Type) (law02_Text_3_0_L : law02_Text_3_0_ty R) : Nat → Option (Hint × LSpec R) := fun i => match i with
  | 3 => some (law02_Text_3_0_h, (loopBy law02_Text_3_0_p law02_Text_3_0_q (law02_Text_3_0_rr law02_Text_3_0_L) loopNo))
  | _ => none

theorem law02_Text_3_0_B_ok {R : Type} (law02_pick : law02_pick_ty R) (law02_Text_3_0_L : law02_Text_3_0_ty R) (K : Ex → St → Option R) (rc : St → Option R) (d : law02_Text_3_0_D) : roundOf tt (law02_Text_E R law02_pick) (law02_Text_T R law02_Text_3_0_L) 0 ((loopsOf (codeOf Tryd.f18)).getD 0 .skip) law02_Text_3_0_h (law02_Text_3_0_enc d) rc K = law02_Text_3_0_s law02_pick K (fun d => rc (law02_Text_3_0_enc d)) d := by kernel_rfl
theorem law02_Text_3_0_A_succ {R : Type} (K : Ex → St → Option R) (n : Nat) (d : law02_Text_3_0_D) : law02_Text_3_0_A K (n + 1) d = law02_Text_3_0_s law02_pick K (law02_Text_3_0_A K n) d := by kernel_rfl
theorem law02_Text_3_0_A_zero {R : Type} (K : Ex → St → Option R) (d : law02_Text_3_0_D) : law02_Text_3_0_A K 0 d = none := by kernel_rfl
theorem law02_Text_3_0_e_ok (x : Pat.dens law02_Text_3_0_p) (y : HPat.dens law02_Text_3_0_q) : (⟨Pat.encL law02_Text_3_0_p x, HPat.encL law02_Text_3_0_q y⟩ : St) = law02_Text_3_0_enc (law02_Text_3_0_d x y) := by kernel_rfl
theorem law02_Text_3_0_r_ok {R : Type} (x : Pat.dens law02_Text_3_0_p) (y : HPat.dens law02_Text_3_0_q) (K : Ex → St → Option R) : law02_Text_3_0_rr (law02_Text_3_0_L) x y K = law02_Text_3_0_A K (law02_Text_3_0_f x y) (law02_Text_3_0_d x y) := by kernel_rfl
theorem law02_Text_3_0_ok {R : Type} (other : LSpec R) (ho : LsOk tt (law02_Text_E R law02_pick) (law02_Text_T R law02_Text_3_0_L) 0 ((loopsOf (codeOf Tryd.f18)).getD 0 .skip) law02_Text_3_0_h other) : LsOk tt (law02_Text_E R law02_pick) (law02_Text_T R law02_Text_3_0_L) 0 ((loopsOf (codeOf Tryd.f18)).getD 0 .skip) law02_Text_3_0_h (loopBy law02_Text_3_0_p law02_Text_3_0_q (law02_Text_3_0_rr (law02_Text_3_0_L)) other) :=
  loopBy_tie (A := law02_Text_3_0_A) ho (loop_tie law02_Text_3_0_enc (law02_Text_3_0_s law02_pick) (law02_Text_3_0_A) (law02_Text_3_0_A_zero) (law02_Text_3_0_B_ok law02_pick law02_Text_3_0_L) (law02_Text_3_0_A_succ)) law02_Text_3_0_f law02_Text_3_0_d law02_Text_3_0_e_ok (law02_Text_3_0_r_ok)

noncomputable def law02_Text_X {R : Type} (law02_Text_3_0_L : law02_Text_3_0_ty R) (x1 : List Int) (k0 : Str → Option R) : Option R :=
  law02_Text_3_0_L (List.length x1 + List.length ([] : Str) + Int.natAbs 0 + 64) x1 ([] : Str) 0 (fun y18 => k0 y18)
noncomputable def law02_Text {R : Type} : law02_Text_ty R := fun x1 k0 => law02_Text_X law02_Text_3_0_L x1 k0
theorem law02_Text_ok {R : Type} (law02_pick : law02_pick_ty R) (law02_Text_3_0_L : law02_Text_3_0_ty R) (x1 : List Int) (k : V → Heap → Option R) : funK tt (law02_Text_E R law02_pick) (law02_Text_T R law02_Text_3_0_L) false Tryd.f18 (codeOf Tryd.f18) [.sl (.int .i64) x1 .no] [] k =
    law02_Text_X law02_Text_3_0_L x1 (fun q0 => k (.str q0) []) := by kernel_rfl
theorem law02_Text_loops (R : Type) : ∀ a ∈ loopsOf (codeOf Tryd.f18), LoopOk tt (law02_Text_E R law02_pick) (law02_Text_T R law02_Text_3_0_L) 0 a := by
  refine loops_ok 1 (by kernel_rfl) fun i hi => ?_
  match i, hi with
  | 0, _ => exact loopOk_some (by kernel_rfl) (law02_Text_3_0_ok _ loopNo_ok)
  | n + 1, hi => omega
theorem law02_Text_S_ok (R : Type) (other : Yard.Spec R) (ho : Yard.Spec.Ok Tryd.prog 18 other) : Yard.Spec.Ok Tryd.prog 18 (specBy law02_Text_p law02_Text_q (law02_Text_rr law02_Text) other) :=
  specBy_ok ho (funK_sound TT mixed (law02_Text_EOk R) (keep := false) rfl rfl rfl rfl 0 (law02_Text_loops R)) fun (x : Pat.dens law02_Text_p) (y : HPat.dens law02_Text_q) k => law02_Text_ok law02_pick law02_Text_3_0_L x.1 k

end Go.Proofs.YtifgegmnngfckaaDoor

/-
  Text: of raw numbers a text of runes. Own work.
-/
set_option linter.unusedVariables false
set_option maxRecDepth 100000
namespace Go.Proofs.YtifgegmnngfckaaDoor
open Go Go.Yard

def I64 (n : Int) : Prop := -9223372036854775808 ≤ n ∧ n ≤ 9223372036854775807
theorem i64_has {n : Int} : IntKind.i64.has n ↔ I64 n := by
  unfold IntKind.has I64
  simp only [IntKind.min, IntKind.max, IntKind.bits, IntKind.signed]
  simp

theorem pick_raw {R : Type} (c n : Int) (hc : I64 c) (h0 : 0 < n) (hn : n ≤ 9223372036854775807) : ∃ r : Int, 0 ≤ r ∧ r < n ∧ ∀ k : Int → Option R,
    (bif (decide (c < (0 : Int))) then (chk (!decide (n = 0)) (k (Int.tmod (IntKind.i64.wrap (0 - (IntKind.i64.wrap (c + 1)))) n))) else (chk (!decide (n = 0)) (k (Int.tmod c n)))) = k r := by
  obtain ⟨h1, h2⟩ := hc
  have hz : (!decide (n = 0)) = true := by simp; omega
  by_cases h : c < 0
  · refine ⟨Int.tmod (0 - (c + 1)) n, Int.tmod_nonneg _ (by omega), Int.tmod_lt_of_pos _ h0, fun k => ?_⟩
    have hd : decide (c < (0 : Int)) = true := by simpa using h
    rw [hd, cond_true, chk_pos hz, wrap_id (n := c + 1) (by omega) (by omega), wrap_id (by omega) (by omega)]
  · refine ⟨Int.tmod c n, Int.tmod_nonneg _ (by omega), Int.tmod_lt_of_pos _ h0, fun k => ?_⟩
    have hd : decide (c < (0 : Int)) = false := by simpa using h
    rw [hd, cond_false, chk_pos hz]

theorem pick02 {R : Type} (c n : Int) (hc : I64 c) (h0 : 0 < n) (hn : n ≤ 9223372036854775807) : ∃ r : Int, 0 ≤ r ∧ r < n ∧ ∀ k : Int → Option R, law02_pick c n k = k r := pick_raw c n hc h0 hn

theorem wrap32_id {n : Int} (h1 : 0 ≤ n) (h2 : n < 1114112) : IntKind.i32.wrap n = n := by
  simp only [IntKind.wrap, IntKind.bits, IntKind.signed, IntKind.min, IntKind.max]
  simp
  omega

theorem encode_enc {c : Nat} (hv : vr c) : (Utf8.encode (c : Int)).data.toList = enc c := by
  have hlt := vr_lt hv
  have hval : Utf8.valid (c : Int) = true := by
    unfold vr at hv
    simp only [Utf8.valid, Bool.or_eq_true, Bool.and_eq_true, decide_eq_true_eq]
    omega
  unfold Utf8.encode
  simp only [hval, if_true, Int.toNat_natCast]
  by_cases h1 : c < 128
  · rw [if_pos h1, enc1 h1]
  by_cases h2 : c < 2048
  · rw [if_neg h1, if_pos h2, enc2 (by omega) h2]
  by_cases h3 : c < 65536
  · rw [if_neg h1, if_neg h2, if_pos h3, enc3 (by omega) h3 hv]
  · rw [if_neg h1, if_neg h2, if_neg h3, enc4 (by omega) hlt]

theorem runesB_enc {c : Nat} (hv : vr c) : runesB [(c : Int)] = enc c := by
  unfold runesB
  simp only [List.flatMap_cons, List.flatMap_nil, List.append_nil]
  exact encode_enc hv

theorem encL_snoc (rs : List Nat) (c : Nat) : encL (rs ++ [c]) = encL rs ++ enc c := by simp [encL]

theorem dtrue {p : Prop} [Decidable p] (h : p) : decide p = true := decide_eq_true h
theorem dfalse {p : Prop} [Decidable p] (h : ¬ p) : decide p = false := decide_eq_false h

/-- The rune of a raw value. -/
def runeOf (z : Int) : Nat := if 55296 ≤ z ∧ z ≤ 57343 then 120 else z.toNat
theorem runeOf_vr {z : Int} (h0 : 0 ≤ z) (h1 : z < 1114112) : vr (runeOf z) := by unfold runeOf vr; split <;> omega

theorem text_add {R : Type} (raw : List Int) (s : Str) (i : Nat) (rec' : List Int → Str → Int → Option R) {z : Int} (h0 : 0 ≤ z) (h1 : z < 1114112) (hl : s.length ≤ 4 * i) (hi : i < 200) :
    (bif (decide (z ≥ (55296 : Int))) then (bif (decide (z ≤ (57343 : Int))) then (chk (decide (s.length + (runesB ([120] : List Int)).length ≤ 9223372036854775807)) (rec' raw (s ++ (runesB ([120] : List Int))) (IntKind.i64.wrap ((i : Int) + 1)))) else (chk (decide (s.length + (runesB ([(IntKind.i32.wrap z)] : List Int)).length ≤ 9223372036854775807)) (rec' raw (s ++ (runesB ([(IntKind.i32.wrap z)] : List Int))) (IntKind.i64.wrap ((i : Int) + 1))))) else (chk (decide (s.length + (runesB ([(IntKind.i32.wrap z)] : List Int)).length ≤ 9223372036854775807)) (rec' raw (s ++ (runesB ([(IntKind.i32.wrap z)] : List Int))) (IntKind.i64.wrap ((i : Int) + 1))))) =
      rec' raw (s ++ enc (runeOf z)) ((i + 1 : Nat) : Int) := by
  have hw : IntKind.i64.wrap ((i : Int) + 1) = ((i + 1 : Nat) : Int) := by rw [wrap_id (by omega) (by omega)]; omega
  have hv := runeOf_vr h0 h1
  have hle := enc_len hv
  by_cases hb : 55296 ≤ z ∧ z ≤ 57343
  · have e : runesB [120] = enc (runeOf z) := by unfold runeOf at hv ⊢; rw [if_pos hb] at hv ⊢; exact runesB_enc hv
    rw [dtrue (show z ≥ 55296 from hb.1), cond_true, dtrue hb.2, cond_true, e, chk_pos (dtrue (by omega)), hw]
  · have e : runesB [IntKind.i32.wrap z] = enc (runeOf z) := by
      unfold runeOf at hv ⊢; rw [if_neg hb] at hv ⊢
      rw [← runesB_enc hv, wrap32_id h0 h1, Int.toNat_of_nonneg h0]
    by_cases hc : z ≥ 55296
    · rw [dtrue hc, cond_true, dfalse (show ¬ z ≤ 57343 by omega), cond_false, e, chk_pos (dtrue (by omega)), hw]
    · rw [dfalse hc, cond_false, e, chk_pos (dtrue (by omega)), hw]

theorem tdiv_i64 {n k : Int} (h : I64 n) (hk : 1 < k) : I64 (Int.tdiv n k) := by
  have h1 : (Int.tdiv n k).natAbs ≤ n.natAbs := by rw [Int.natAbs_tdiv]; exact Nat.div_le_self _ _
  have h2 : (Int.tdiv n k).natAbs = n.natAbs / k.natAbs := Int.natAbs_tdiv _ _
  unfold I64 at h ⊢
  have h3 : n.natAbs / k.natAbs ≤ n.natAbs / 2 := Nat.div_le_div_left (by omega) (by omega)
  omega

theorem text_loop {R : Type} (raw : List Int) (hraw : ∀ x ∈ raw, I64 x) : ∀ (n i : Nat) (rs : List Nat), i ≤ raw.length → raw.length - i < n → i ≤ 200 → (∀ c ∈ rs, vr c) → (encL rs).length ≤ 4 * i →
    ∃ rs' : List Nat, (∀ c ∈ rs', vr c) ∧ (encL rs').length ≤ 800 ∧ ∀ e0 : Str → Option R, law02_Text_3_0_L n raw (encL rs) (i : Int) e0 = e0 (encL rs') := by
  intro n
  induction n with
  | zero => intro i rs h1 h2; omega
  | succ n ih =>
    intro i rs h1 h2 h3 hrs hl
    by_cases hi : i < raw.length
    · by_cases hi2 : i < 200
      · have hx : I64 raw[i] := hraw _ (List.getElem_mem hi)
        have hget : raw.getD (i : Int).toNat (Ty.dflt (.int .i64)) = raw[i] := by simp [List.getD, hi]; rfl
        have key : ∀ z : Int, 0 ≤ z → z < 1114112 → ∃ rs' : List Nat, (∀ c ∈ rs', vr c) ∧ (encL rs').length ≤ 800 ∧ ∀ e0 : Str → Option R, law02_Text_3_0_L n raw (encL rs ++ enc (runeOf z)) ((i + 1 : Nat) : Int) e0 = e0 (encL rs') := by
          intro z z0 z1
          have hv := runeOf_vr z0 z1
          have hle := enc_len hv
          obtain ⟨rs', q1, q2, q3⟩ := ih (i + 1) (rs ++ [runeOf z]) (by omega) (by omega) (by omega) (by
            intro c hc
            rcases List.mem_append.1 hc with hc | hc
            · exact hrs c hc
            · simp at hc; subst hc; exact hv) (by rw [encL_snoc, List.length_append]; omega)
          exact ⟨rs', q1, q2, fun e0 => by rw [← q3 e0, encL_snoc]⟩
        -- what is picked
        obtain ⟨y6, y60, y61, py⟩ := pick02 (R := R) raw[i] 5 hx (by omega) (by omega)
        have ht : I64 (IntKind.i64.wrap (Int.tdiv raw[i] 5)) := by
          have := tdiv_i64 (k := 5) hx (by omega)
          rw [wrap_id this.1 this.2]; exact this
        obtain ⟨a, a0, a1, pa⟩ := pick02 (R := R) (IntKind.i64.wrap (Int.tdiv raw[i] 5)) 128 ht (by omega) (by omega)
        obtain ⟨b, b0, b1, pb⟩ := pick02 (R := R) (IntKind.i64.wrap (Int.tdiv raw[i] 5)) 2048 ht (by omega) (by omega)
        obtain ⟨d, d0, d1, pd⟩ := pick02 (R := R) (IntKind.i64.wrap (Int.tdiv raw[i] 5)) 65536 ht (by omega) (by omega)
        obtain ⟨f, f0, f1, pf⟩ := pick02 (R := R) (IntKind.i64.wrap (Int.tdiv raw[i] 5)) 1114112 ht (by omega) (by omega)
        obtain ⟨rs', q1, q2, q3⟩ := key (if y6 = 0 ∨ y6 = 1 then a else if y6 = 2 then b else if y6 = 3 then d else f) (by split; omega; split; omega; split <;> omega) (by split; omega; split; omega; split <;> omega)
        refine ⟨rs', q1, q2, fun e0 => ?_⟩
        rw [← q3 e0]
        show law02_Text_3_0_B law02_pick _ raw (encL rs) (i : Int) e0 = _
        unfold law02_Text_3_0_B
        rw [dtrue (show (i : Int) < (raw.length : Int) by omega), cond_true, dtrue (show (i : Int) < 200 by omega), cond_true, dtrue (show (0 : Int) ≤ (i : Int) by omega)]
        rw [chk_pos (by rfl)]
        simp only [hget, py, pa, pb, pd, pf]
        have add := fun (z : Int) (z0 : 0 ≤ z) (z1 : z < 1114112) => text_add raw (encL rs) i (fun x0' x1' x2' => law02_Text_3_0_L (R := R) n x0' x1' x2' e0) z0 z1 hl hi2
        by_cases c0 : y6 = 0
        · rw [if_pos (.inl c0)]
          have e0' : (y6 == 0) = true := by simp [c0]
          rw [e0', cond_true, cond_true]
          exact add a a0 (by omega)
        · have e0' : (y6 == 0) = false := by simp [c0]
          rw [e0', cond_false]
          by_cases c1 : y6 = 1
          · rw [if_pos (.inr c1)]
            have e1' : (y6 == 1) = true := by simp [c1]
            rw [e1', cond_true]
            exact add a a0 (by omega)
          · have e1' : (y6 == 1) = false := by simp [c1]
            rw [e1', cond_false, if_neg (by omega)]
            by_cases c2 : y6 = 2
            · have e2' : (y6 == 2) = true := by simp [c2]
              rw [e2', cond_true, if_pos c2]
              exact add b b0 (by omega)
            · have e2' : (y6 == 2) = false := by simp [c2]
              rw [e2', cond_false, if_neg c2]
              by_cases c3 : y6 = 3
              · have e3' : (y6 == 3) = true := by simp [c3]
                rw [e3', cond_true, if_pos c3]
                exact add d d0 (by omega)
              · have e3' : (y6 == 3) = false := by simp [c3]
                rw [e3', cond_false, if_neg c3]
                exact add f f0 (by omega)
      · refine ⟨rs, hrs, by omega, fun e0 => ?_⟩
        show law02_Text_3_0_B law02_pick _ raw (encL rs) (i : Int) e0 = _
        unfold law02_Text_3_0_B
        rw [dtrue (show (i : Int) < (raw.length : Int) by omega), cond_true, dfalse (show ¬ (i : Int) < 200 by omega), cond_false]
    · refine ⟨rs, hrs, by omega, fun e0 => ?_⟩
      show law02_Text_3_0_B law02_pick _ raw (encL rs) (i : Int) e0 = _
      unfold law02_Text_3_0_B
      rw [dfalse (show ¬ (i : Int) < (raw.length : Int) by omega), cond_false]

/-- TEXT: some runes, and no more than 800 bytes. -/
theorem text_ok {R : Type} (raw : List Int) (hraw : ∀ x ∈ raw, I64 x) : ∃ rs : List Nat, (∀ c ∈ rs, vr c) ∧ (encL rs).length ≤ 800 ∧ ∀ k : Str → Option R, law02_Text raw k = k (encL rs) := by
  obtain ⟨rs, h1, h2, h3⟩ := text_loop (R := R) raw hraw (List.length raw + List.length ([] : Str) + Int.natAbs 0 + 64) 0 [] (by omega) (by omega) (by omega) (by simp) (by simp [encL])
  exact ⟨rs, h1, h2, fun k => h3 _⟩
end Go.Proofs.YtifgegmnngfckaaDoor

/-
  What a builder's methods write. Own work.
-/
set_option linter.unusedVariables false
set_option maxRecDepth 100000
namespace Go.Proofs.YtifgegmnngfckaaDoor
open Go Go.Yard

/-- A text's bytes as numbers. -/
abbrev zs (s : Str) : List Int := s.map fun b => (b.toNat : Int)
theorem zs_app (s t : Str) : zs (s ++ t) = zs s ++ zs t := List.map_append
theorem zs_bytesN (s : Str) : bytesN s = zs s := rfl
theorem zs_len (s : Str) : (zs s).length = s.length := List.length_map _
theorem bstr_zs (s : Str) : bstr (zs s) = s := by
  unfold bstr zs
  rw [List.map_map]
  conv => rhs; rw [← List.map_id s]
  exact List.map_congr_left fun b _ => by simp
theorem zs_nat (n : Nat) (h : n < 256) : ((UInt8.ofNat n).toNat : Int) = n := by rw [u8_nat n h]

/-- As much as a builder here ever holds. -/
def Lim (s : Str) : Prop := s.length ≤ 100000000000

theorem wb {R : Type} (b : UInt8) (s : Str) (hl : Lim s) (k : List Int → Option R) : strings_Builder_WriteByte_4b84 (b.toNat : Int) (zs s) k = k (zs (s ++ [b])) := by
  show chk (decide (((zs s).length + 1) * 1 ≤ 140737488355328)) (k (zs s ++ [(b.toNat : Int)])) = _
  unfold Lim at hl
  rw [chk_pos (dtrue (by rw [zs_len]; omega)), zs_app]
  rfl

theorem ws {R : Type} (x : Str) (s : Str) (hx : x.length ≤ 100000000000) (hl : Lim s) (k : Int → List Int → Option R) : strings_Builder_WriteString_df1e x (zs s) k = k (x.length : Int) (zs (s ++ x)) := by
  show chk (decide (((zs s).length + (bytesN x).length) * 1 ≤ 140737488355328)) (k (x.length : Int) (zs s ++ bytesN x)) = _
  unfold Lim at hl
  rw [zs_bytesN, chk_pos (dtrue (by rw [zs_len, zs_len]; omega)), zs_app]

/-! ### bits -/
theorem or128 : ∀ x : Fin 64, IntKind.u8.wrap ((BitVec.ofInt IntKind.u8.bits 128 ||| BitVec.ofInt IntKind.u8.bits (x.val : Int)).toNat : Int) = ((128 + x.val : Nat) : Int) := by decide +kernel
theorem or192 : ∀ x : Fin 32, IntKind.u8.wrap ((BitVec.ofInt IntKind.u8.bits 192 ||| BitVec.ofInt IntKind.u8.bits (IntKind.u8.wrap (x.val : Int))).toNat : Int) = ((192 + x.val : Nat) : Int) := by decide +kernel
theorem or224 : ∀ x : Fin 16, IntKind.u8.wrap ((BitVec.ofInt IntKind.u8.bits 224 ||| BitVec.ofInt IntKind.u8.bits (IntKind.u8.wrap (x.val : Int))).toNat : Int) = ((224 + x.val : Nat) : Int) := by decide +kernel
theorem or240 : ∀ x : Fin 8, IntKind.u8.wrap ((BitVec.ofInt IntKind.u8.bits 240 ||| BitVec.ofInt IntKind.u8.bits (IntKind.u8.wrap (x.val : Int))).toNat : Int) = ((240 + x.val : Nat) : Int) := by decide +kernel
theorem and63 : ∀ x : Fin 256, IntKind.u8.wrap ((BitVec.ofInt IntKind.u8.bits (x.val : Int) &&& BitVec.ofInt IntKind.u8.bits 63).toNat : Int) = ((x.val % 64 : Nat) : Int) := by decide +kernel

theorem wrap8 (n : Nat) : IntKind.u8.wrap (n : Int) = ((n % 256 : Nat) : Int) := by
  simp only [IntKind.wrap, IntKind.bits, IntKind.signed]
  simp
theorem wrap32u {n : Nat} (h : n < 1114112) : IntKind.u32.wrap (n : Int) = (n : Int) := by
  simp only [IntKind.wrap, IntKind.bits, IntKind.signed]
  simp
  omega
theorem shr (c n : Nat) (h : n ≤ 32) : Int.fdiv (c : Int) (2 ^ (min n IntKind.i32.bits)) = ((c / 2 ^ n : Nat) : Int) := by
  have e : min n IntKind.i32.bits = n := Nat.min_eq_left h
  rw [e, Int.fdiv_eq_ediv_of_nonneg _ (by exact Int.le_of_lt (Int.pow_pos (by omega)))]
  rw [Int.natCast_ediv]
  congr 1

theorem cont (c : Nat) : IntKind.u8.wrap ((BitVec.ofInt IntKind.u8.bits 128 ||| BitVec.ofInt IntKind.u8.bits (IntKind.u8.wrap ((BitVec.ofInt IntKind.u8.bits (IntKind.u8.wrap (c : Int)) &&& BitVec.ofInt IntKind.u8.bits 63).toNat : Int))).toNat : Int) = ((128 + c % 64 : Nat) : Int) := by
  have h1 := and63 ⟨c % 256, Nat.mod_lt _ (by omega)⟩
  simp only at h1
  rw [wrap8 c, h1, show c % 256 % 64 = c % 64 by omega]
  exact or128 ⟨c % 64, Nat.mod_lt _ (by omega)⟩

theorem zs_enc1 (n : Nat) (h : n < 256) : zs [UInt8.ofNat n] = [(n : Int)] := by simp only [zs, List.map_cons, List.map_nil, zs_nat n h]

/-- APPENDRUNE writes the encoding. -/
theorem ar {R : Type} {c : Nat} (hv : vr c) (s : Str) (hl : Lim s) (k : List Int → Option R) : unicode_utf8_AppendRune_7b6c (zs s) (c : Int) k = k (zs (s ++ enc c)) := by
  have hlt := vr_lt hv
  unfold Lim at hl
  show unicode_utf8_AppendRune_7b6c_X unicode_utf8_appendRuneNonASCII_7b6c (zs s) (c : Int) k = _
  unfold unicode_utf8_AppendRune_7b6c_X
  rw [wrap32u hlt, zs_app]
  rcases enc_cases hv with ⟨h1, e⟩ | ⟨h0, h1, e⟩ | ⟨h0, h1, e⟩ | ⟨h0, e⟩
  · rw [dtrue (show (c : Int) ≤ 127 by omega), cond_true, chk_pos (dtrue (by rw [zs_len]; omega)), e, zs_enc1 c (by omega), wrap8, Nat.mod_eq_of_lt (by omega)]
  all_goals
    rw [dfalse (show ¬ (c : Int) ≤ 127 by omega), cond_false]
    show unicode_utf8_appendRuneNonASCII_7b6c_X (zs s) (c : Int) _ = _
    unfold unicode_utf8_appendRuneNonASCII_7b6c_X
    rw [wrap32u hlt, e]
    simp only [cont, shr _ 6 (by omega), shr _ 12 (by omega), shr _ 18 (by omega), zs_len]
  · rw [dtrue (show (c : Int) ≤ 2047 by omega), cond_true, chk_pos (dtrue (by omega))]
    have := or192 ⟨c / 64, by omega⟩
    simp only at this
    rw [show c / 2 ^ 6 = c / 64 from rfl, this]
    simp only [zs, List.map_cons, List.map_nil, zs_nat (192 + c / 64) (by omega), zs_nat (128 + c % 64) (by omega)]
  · rw [dfalse (show ¬ (c : Int) ≤ 2047 by omega), cond_false]
    unfold vr at hv
    by_cases h2 : c < 55296
    · rw [dtrue (show (c : Int) < 55296 by omega), cond_true, cond_true, chk_pos (dtrue (by omega))]
      have := or224 ⟨c / 4096, by omega⟩
      simp only at this
      rw [show c / 2 ^ 12 = c / 4096 from rfl, this]
      simp only [zs, List.map_cons, List.map_nil, zs_nat (224 + c / 4096) (by omega), zs_nat (128 + c % 64) (by omega), zs_nat (128 + c / 64 % 64) (by omega)]
    rw [dfalse (show ¬ (c : Int) < 55296 by omega), cond_false, dtrue (show (57343 : Int) < (c : Int) by omega), cond_true, dtrue (show (c : Int) ≤ 65535 by omega), cond_true, chk_pos (dtrue (by omega))]
    have := or224 ⟨c / 4096, by omega⟩
    simp only at this
    rw [show c / 2 ^ 12 = c / 4096 from rfl, this]
    simp only [zs, List.map_cons, List.map_nil, zs_nat (224 + c / 4096) (by omega), zs_nat (128 + c % 64) (by omega), zs_nat (128 + c / 64 % 64) (by omega)]
  · rw [dfalse (show ¬ (c : Int) ≤ 2047 by omega), cond_false]
    rw [dfalse (show ¬ (c : Int) < 55296 by omega), cond_false, dtrue (show (57343 : Int) < (c : Int) by omega), cond_true, dfalse (show ¬ (c : Int) ≤ 65535 by omega), cond_false,
      dtrue (show (c : Int) > 65535 by omega), cond_true, dtrue (show (c : Int) ≤ 1114111 by omega), cond_true, chk_pos (dtrue (by omega))]
    have := or240 ⟨c / 262144, by omega⟩
    simp only at this
    rw [show c / 2 ^ 18 = c / 262144 from rfl, this]
    simp only [zs, List.map_cons, List.map_nil, zs_nat (240 + c / 262144) (by omega), zs_nat (128 + c % 64) (by omega), zs_nat (128 + c / 64 % 64) (by omega), zs_nat (128 + c / 4096 % 64) (by omega)]

theorem wr {R : Type} {c : Nat} (hv : vr c) (s : Str) (hl : Lim s) (k : Int → List Int → Option R) : ∃ n : Int, strings_Builder_WriteRune_dc6e (c : Int) (zs s) k = k n (zs (s ++ enc c)) := by
  refine ⟨IntKind.i64.wrap (((zs (s ++ enc c)).length : Int) - ((zs s).length : Int)), ?_⟩
  show strings_Builder_WriteRune_dc6e_X unicode_utf8_AppendRune_7b6c (c : Int) (zs s) k = _
  unfold strings_Builder_WriteRune_dc6e_X
  rw [ar hv s hl]
end Go.Proofs.YtifgegmnngfckaaDoor

/-
  Unquote, part 1: what its reader reads. Own work.
-/
set_option linter.unusedVariables false
set_option maxRecDepth 100000
namespace Go.Proofs.YtifgegmnngfckaaDoor
open Go Go.Yard Go.Lib

theorem band2 {p q : Prop} [Decidable p] [Decidable q] (hp : p) (hq : q) : (decide p && decide q) = true := by rw [dtrue hp, dtrue hq]; rfl

/-! ### skip -/
theorem take_pre : ∀ (p s : Str), (s.take p.length == p) = p.isPrefixOf s
  | [], s => by simp
  | a :: p, [] => by simp
  | a :: p, b :: s => by
    have := take_pre p s
    simp only [List.length_cons, List.take_succ_cons, List.isPrefixOf]
    rw [List.cons_beq_cons, this]
    congr 1
    exact Bool.beq_comm

theorem skip_ok {R : Type} (p s : Str) (hp : p.length ≤ 1000) (hs : s.length ≤ 9000000000000000000) (k : Bool → Str → Option R) :
    quote_reader_skip_e74a p s k = if p.isPrefixOf s then k true (s.drop p.length) else k false s := by
  have e1 : ∀ f : Str → Bool → Option R, strings_CutPrefix s p f = internal_stringslite_CutPrefix s p f := fun _ => rfl
  show strings_CutPrefix s p (fun y3 y4 => k y4 y3) = _
  rw [e1]
  show internal_stringslite_CutPrefix_X internal_stringslite_HasPrefix s p (fun y3 y4 => k y4 y3) = _
  unfold internal_stringslite_CutPrefix_X
  have e2 : ∀ f : Bool → Option R, internal_stringslite_HasPrefix s p f = f (p.isPrefixOf s) := by
    intro f
    show internal_stringslite_HasPrefix_X s p f = _
    unfold internal_stringslite_HasPrefix_X
    by_cases h : p.length ≤ s.length
    · rw [dtrue (show (s.length : Int) ≥ (p.length : Int) by omega), cond_true, chk_pos (by rw [dtrue (show (0 : Int) ≤ (p.length : Int) by omega)]; rfl), chk_pos (dtrue (by omega))]
      rw [List.drop_zero, Int.toNat_natCast, Nat.sub_zero, take_pre]
    · rw [dfalse (show ¬ (s.length : Int) ≥ (p.length : Int) by omega), cond_false]
      congr 1
      rw [← take_pre]
      symm
      rw [beq_eq_false_iff_ne]
      intro e
      have := congrArg List.length e
      rw [List.length_take] at this
      omega
  rw [e2]
  cases hp2 : p.isPrefixOf s with
  | false => simp
  | true =>
    have hle : p.length ≤ s.length := (List.IsPrefix.length_le (List.isPrefixOf_iff_prefix.1 hp2))
    rw [Bool.not_true, cond_false, chk_pos (band2 (by omega) (by omega)), chk_pos (band2 (by omega) (by omega))]
    simp only [Int.toNat_natCast, if_true]
    rw [List.take_of_length_le (by rw [List.length_drop]; exact Nat.le_refl _)]

/-! ### a plain character -/
theorem decRune_eq {s : Str} (h : s ≠ []) : decRune s = decodeL s := by
  unfold decRune
  have : s.isEmpty = false := by cases s with | nil => exact (h rfl).elim | cons _ _ => rfl
  rw [this]
  rfl

def plainP (s : Str) : Option (Nat × Str) :=
  if s = [] then none else if (decodeL s).1 = 65533 ∧ (decodeL s).2 = 1 then none else if (decodeL s).1 < 32 then none else some ((decodeL s).1, s.drop (decodeL s).2)

theorem plain_ok {R : Type} (s : Str) (hs : s.length ≤ 9000000000000000000) (k : Int → Str → Option R) :
    quote_reader_plain_abbd s k = match plainP s with | some (c, r) => k (c : Int) r | none => k (-1) s := by
  show quote_reader_plain_abbd_X s k = _
  unfold quote_reader_plain_abbd_X
  by_cases h0 : s = []
  · subst h0; rfl
  rw [decRune_eq h0]
  have hw := decodeL_width s
  have hle := decodeL_le s h0
  have hj : (chk (decide ((0 : Int) ≤ (s.length : Int)) && decide ((s.length : Int) ≤ s.length)) (chk (decide ((0 : Int) ≤ ((decodeL s).2 : Int)) && decide (((decodeL s).2 : Int) ≤ (s.length : Int))) (k ((decodeL s).1 : Int) ((s.drop ((decodeL s).2 : Int).toNat).take ((s.length : Int).toNat - ((decodeL s).2 : Int).toNat))))) = k ((decodeL s).1 : Int) (s.drop (decodeL s).2) := by
    rw [chk_pos (band2 (by omega) (by omega)), chk_pos (band2 (by omega) (by omega)), Int.toNat_natCast, Int.toNat_natCast, List.take_of_length_le (by rw [List.length_drop]; exact Nat.le_refl _)]
  simp only [hj]
  unfold plainP
  rw [if_neg h0]
  by_cases h1 : (decodeL s).1 = 65533
  · have e1 : (((decodeL s).1 : Int) == 65533) = true := by rw [h1]; rfl
    rw [e1, cond_true]
    by_cases h2 : (decodeL s).2 = 1
    · rw [dtrue (show ((decodeL s).2 : Int) < 2 by omega), cond_true, if_pos ⟨h1, h2⟩]
    · rw [dfalse (show ¬ ((decodeL s).2 : Int) < 2 by omega), cond_false, dfalse (show ¬ ((decodeL s).1 : Int) < 32 by omega), cond_false, if_neg (fun h => h2 h.2), if_neg (by omega)]
  · have e1 : (((decodeL s).1 : Int) == 65533) = false := by rw [beq_eq_false_iff_ne]; omega
    rw [e1, cond_false, if_neg (fun h => h1 h.1)]
    by_cases h3 : (decodeL s).1 < 32
    · rw [dtrue (show ((decodeL s).1 : Int) < 32 by omega), cond_true, if_pos h3]
    · rw [dfalse (show ¬ ((decodeL s).1 : Int) < 32 by omega), cond_false, if_neg h3]

/-! ### four digits -/
def hexv (b : UInt8) : Option Nat :=
  let n := b.toNat
  if 48 ≤ n ∧ n ≤ 57 then some (n - 48) else if 65 ≤ n ∧ n ≤ 70 then some (n - 55) else if 97 ≤ n ∧ n ≤ 102 then some (n - 87) else none
def hexN : Str → Nat → Option Nat
  | [], v => some v
  | b :: t, v => match hexv b with | some d => hexN t (16 * v + d) | none => none

def lowI (b : Int) : Int := IntKind.u8.wrap ((BitVec.ofInt IntKind.u8.bits b ||| BitVec.ofInt IntKind.u8.bits 32).toNat : Int)

def hexB (b : Nat) : Bool :=
  (!(decide (48 ≤ b) && decide (b ≤ 57)) || decide (IntKind.u8.wrap ((b : Int) - 48) = ((b - 48 : Nat) : Int))) &&
  (!(decide ((97 : Int) ≤ lowI b) && decide (lowI b ≤ 122)) || (!(decide (48 ≤ b) && decide (b ≤ 57)) && decide (b ≠ 95) && decide (IntKind.u8.wrap ((IntKind.u8.wrap (lowI b - 97)) + 10) = lowI b - 87) &&
    (!decide (lowI b - 87 < 16) || ((decide (65 ≤ b) && decide (b ≤ 70) && decide (lowI b - 87 = ((b - 55 : Nat) : Int))) || (decide (97 ≤ b) && decide (b ≤ 102) && decide (lowI b - 87 = ((b - 87 : Nat) : Int))))) &&
    (!decide (16 ≤ lowI b - 87) || (!(decide (65 ≤ b) && decide (b ≤ 70)) && !(decide (97 ≤ b) && decide (b ≤ 102)))))) &&
  ((decide ((97 : Int) ≤ lowI b) && decide (lowI b ≤ 122)) || (!(decide (65 ≤ b) && decide (b ≤ 70)) && !(decide (97 ≤ b) && decide (b ≤ 102))))
theorem hexB_all : ∀ b : Fin 256, hexB b.val = true := by decide +kernel
theorem hex_fact (b : Nat) (hb : b < 256) :
    ((48 ≤ b ∧ b ≤ 57) → IntKind.u8.wrap ((b : Int) - 48) = ((b - 48 : Nat) : Int)) ∧
    ((97 : Int) ≤ lowI b → lowI b ≤ 122 → ¬ (48 ≤ b ∧ b ≤ 57) ∧ b ≠ 95 ∧ IntKind.u8.wrap ((IntKind.u8.wrap (lowI b - 97)) + 10) = lowI b - 87 ∧
      (lowI b - 87 < 16 → ((65 ≤ b ∧ b ≤ 70) ∧ lowI b - 87 = ((b - 55 : Nat) : Int)) ∨ ((97 ≤ b ∧ b ≤ 102) ∧ lowI b - 87 = ((b - 87 : Nat) : Int))) ∧
      (16 ≤ lowI b - 87 → ¬ (65 ≤ b ∧ b ≤ 70) ∧ ¬ (97 ≤ b ∧ b ≤ 102))) ∧
    (¬ ((97 : Int) ≤ lowI b ∧ lowI b ≤ 122) → ¬ (65 ≤ b ∧ b ≤ 70) ∧ ¬ (97 ≤ b ∧ b ≤ 102)) := by
  have h := hexB_all ⟨b, hb⟩
  unfold hexB at h
  generalize lowI (b : Int) = l at *
  simp only [Bool.and_eq_true, Bool.or_eq_true, Bool.not_eq_true', Bool.and_eq_false_iff, decide_eq_true_eq, decide_eq_false_iff_not] at h
  obtain ⟨⟨h1, h2⟩, h3⟩ := h
  refine ⟨fun q => ?_, fun q1 q2 => ?_, fun q => ?_⟩
  · rcases h1 with h1 | h1
    · omega
    · exact h1
  · rcases h2 with h2 | ⟨⟨⟨⟨g1, g2⟩, g3⟩, g4⟩, g5⟩
    · omega
    · refine ⟨by omega, g2, g3, fun q => ?_, fun q => ?_⟩
      · rcases g4 with g4 | g4
        · omega
        · rcases g4 with ⟨⟨k1, k2⟩, k3⟩ | ⟨⟨k1, k2⟩, k3⟩
          · exact .inl ⟨⟨k1, k2⟩, k3⟩
          · exact .inr ⟨⟨k1, k2⟩, k3⟩
      · rcases g5 with g5 | ⟨k1, k2⟩
        · omega
        · exact ⟨by omega, by omega⟩
  · rcases h3 with h3 | ⟨k1, k2⟩
    · omega
    · exact ⟨by omega, by omega⟩

theorem hexv_lt {b : UInt8} {d : Nat} (h : hexv b = some d) : d < 16 := by
  unfold hexv at h
  simp only at h
  split at h
  · cases h; omega
  · split at h
    · cases h; omega
    · split at h
      · cases h; omega
      · cases h

theorem u64w {n : Int} (h0 : 0 ≤ n) (h : n ≤ 18446744073709551615) : IntKind.u64.wrap n = n := by
  simp only [IntKind.wrap, IntKind.bits, IntKind.signed]
  simp
  omega

/-- A ROUND of ParseUint's loop. -/
theorem uint_round {R : Type} {s x22 : Str} {i v : Nat} (hi : i < s.length) (hs : s.length ≤ 1000) (hv : v < 4096) (rec' : Int → Bool → Str → Int → Int → Bool → Int → Nat → Int → Int → (List Int) → Option R) (e0 : Str → Bool → Int → Option R) (e1 e2 : Int → Str → Bool → Int → Option R) (e3 : Int → Str → Bool → Option R) :
    internal_strconv_ParseUint_36_0_B internal_strconv_lower rec' 16 false x22 1152921504606846976 65535 false (v : Int) s.length (s.length : Int) (i : Int) (bytesN s) e0 e1 e2 e3 =
      match hexv (s[i]) with
      | some d => rec' 16 false x22 1152921504606846976 65535 false ((16 * v + d : Nat) : Int) s.length (s.length : Int) ((i + 1 : Nat) : Int) (bytesN s)
      | none => e1 0 x22 false (v : Int) := by
  unfold internal_strconv_ParseUint_36_0_B
  have hlow : ∀ (n : Int) (f : Int → Option R), internal_strconv_lower n f = f (lowI n) := fun _ _ => rfl
  have hget : (bytesN s).getD (i : Int).toNat (Ty.dflt (.int .u8)) = (s[i].toNat : Int) := by
    rw [Int.toNat_natCast]
    show (s.map fun b => (b.toNat : Int)).getD i _ = _
    simp [List.getD, hi]
    rfl
  rw [dtrue (show (i : Int) < (s.length : Int) by omega), cond_true, chk_pos (by rw [dtrue (show (0 : Int) ≤ (i : Int) by omega)]; rfl),
    chk_pos (dtrue (by rw [Int.toNat_natCast, zs_bytesN, zs_len]; exact hi))]
  simp only [hget, hlow]
  obtain ⟨f1, f2, f3⟩ := hex_fact s[i].toNat (UInt8.toNat_lt _)
  have hb := UInt8.toNat_lt s[i]
  generalize hbn : s[i].toNat = b at *
  have hw16 : IntKind.u8.wrap 16 = 16 := by decide
  have hw64 : IntKind.u64.wrap 16 = 16 := by decide
  have hi1 : IntKind.i64.wrap ((i : Int) + 1) = ((i + 1 : Nat) : Int) := by rw [wrap_id (by omega) (by omega)]; omega
  -- a digit's value, if it is below 16
  have fit : ∀ d : Nat, d < 16 → ∀ z : Int, z = (d : Int) → (bif (decide (z ≥ (IntKind.u8.wrap 16))) then (e1 0 x22 false (v : Int)) else (bif (decide ((v : Int) ≥ 1152921504606846976)) then (e2 65535 x22 false (v : Int)) else (bif (decide ((IntKind.u64.wrap ((IntKind.u64.wrap ((v : Int) * (IntKind.u64.wrap 16))) + (IntKind.u64.wrap z))) < (IntKind.u64.wrap ((v : Int) * (IntKind.u64.wrap 16))))) then (e2 65535 x22 false (IntKind.u64.wrap ((v : Int) * (IntKind.u64.wrap 16)))) else (bif (decide ((IntKind.u64.wrap ((IntKind.u64.wrap ((v : Int) * (IntKind.u64.wrap 16))) + (IntKind.u64.wrap z))) > 65535)) then (e2 65535 x22 false (IntKind.u64.wrap ((v : Int) * (IntKind.u64.wrap 16)))) else (rec' 16 false x22 1152921504606846976 65535 false (IntKind.u64.wrap ((IntKind.u64.wrap ((v : Int) * (IntKind.u64.wrap 16))) + (IntKind.u64.wrap z))) s.length (s.length : Int) (IntKind.i64.wrap ((i : Int) + 1)) (bytesN s)))))) =
      rec' 16 false x22 1152921504606846976 65535 false ((16 * v + d : Nat) : Int) s.length (s.length : Int) ((i + 1 : Nat) : Int) (bytesN s) := by
    intro d hd z hz
    subst hz
    have k1 : IntKind.u64.wrap ((v : Int) * 16) = (v : Int) * 16 := u64w (by omega) (by omega)
    have k2 : IntKind.u64.wrap (d : Int) = d := u64w (by omega) (by omega)
    have k3 : IntKind.u64.wrap ((v : Int) * 16 + (d : Int)) = (v : Int) * 16 + (d : Int) := u64w (by omega) (by omega)
    rw [hw16, hw64, k1, k2, k3, hi1, dfalse (show ¬ (d : Int) ≥ 16 by omega), cond_false, dfalse (show ¬ (v : Int) ≥ 1152921504606846976 by omega), cond_false, dfalse (show ¬ (v : Int) * 16 + (d : Int) < (v : Int) * 16 by omega), cond_false,
      dfalse (show ¬ (v : Int) * 16 + (d : Int) > 65535 by omega), cond_false]
    have : (v : Int) * 16 + (d : Int) = ((16 * v + d : Nat) : Int) := by omega
    rw [this]
  rw [cond_false, Bool.cond_self]
  unfold hexv
  simp only [hbn]
  by_cases h1 : 48 ≤ b ∧ b ≤ 57
  · rw [dtrue (show (48 : Int) ≤ (b : Int) by omega), cond_true, dtrue (show (b : Int) ≤ 57 by omega), cond_true, if_pos h1]
    exact fit (b - 48) (by omega) _ (f1 h1)
  · rw [if_neg h1]
    have h48 : ∀ x z : Option R, (bif (decide ((48 : Int) ≤ (b : Int))) then (bif (decide ((b : Int) ≤ (57 : Int))) then x else z) else z) = z := by
      intro x z
      by_cases h : (48 : Int) ≤ (b : Int)
      · rw [dtrue h, cond_true, dfalse (show ¬ (b : Int) ≤ 57 by omega), cond_false]
      · rw [dfalse h, cond_false]
    simp only [cond_false]
    rw [h48]
    by_cases h2 : (97 : Int) ≤ lowI b
    · rw [dtrue h2, cond_true]
      by_cases h3 : lowI b ≤ 122
      · rw [dtrue h3, cond_true]
        obtain ⟨_, _, g1, g2, g3⟩ := f2 h2 h3
        rw [g1]
        by_cases h4 : lowI b - 87 < 16
        · rcases g2 h4 with ⟨q1, q2⟩ | ⟨q1, q2⟩
          · rw [if_pos q1]
            exact fit (b - 55) (by omega) _ q2
          · rw [if_neg (by omega), if_pos q1]
            exact fit (b - 87) (by omega) _ q2
        · obtain ⟨q1, q2⟩ := g3 (by omega)
          rw [hw16, dtrue (show lowI b - 87 ≥ 16 by omega), cond_true, if_neg q1, if_neg q2]
      · rw [dfalse h3, cond_false]
        obtain ⟨q1, q2⟩ := f3 (by omega)
        rw [if_neg q1, if_neg q2]
    · rw [dfalse h2, cond_false]
      obtain ⟨q1, q2⟩ := f3 (by omega)
      rw [if_neg q1, if_neg q2]

theorem hexN_step (s : Str) (i v : Nat) (hi : i < s.length) : hexN (s.drop i) v = match hexv s[i] with | some d => hexN (s.drop (i + 1)) (16 * v + d) | none => none := by
  rw [List.drop_eq_getElem_cons hi]
  rfl

theorem uint_loop {R : Type} {s x22 : Str} (hs : s.length ≤ 4) (e0 : Str → Bool → Int → Option R) (e1 e2 : Int → Str → Bool → Int → Option R) (e3 : Int → Str → Bool → Option R) : ∀ (n i v : Nat), s.length - i < n → i ≤ s.length → v < 16 ^ i →
    (match hexN (s.drop i) v with
     | some u => internal_strconv_ParseUint_36_0_L n 16 false x22 1152921504606846976 65535 false (v : Int) s.length (s.length : Int) (i : Int) (bytesN s) e0 e1 e2 e3 = e0 x22 false (u : Int)
     | none => ∃ w, internal_strconv_ParseUint_36_0_L n 16 false x22 1152921504606846976 65535 false (v : Int) s.length (s.length : Int) (i : Int) (bytesN s) e0 e1 e2 e3 = e1 0 x22 false w) := by
  intro n
  induction n with
  | zero => intro i v h; omega
  | succ n ih =>
    intro i v h hi hv
    by_cases hlt : i < s.length
    · have hv2 : v < 4096 := by
        have : 16 ^ i ≤ 16 ^ 3 := Nat.pow_le_pow_right (by omega) (by omega)
        have e : (16 : Nat) ^ 3 = 4096 := rfl
        omega
      have hr := uint_round (R := R) (x22 := x22) hlt (by omega) hv2 (fun x0' x1' x2' x3' x4' x5' x6' x7' x8' x9' x10' => internal_strconv_ParseUint_36_0_L n x0' x1' x2' x3' x4' x5' x6' x7' x8' x9' x10' e0 e1 e2 e3) e0 e1 e2 e3
      have hL : internal_strconv_ParseUint_36_0_L (n + 1) 16 false x22 1152921504606846976 65535 false (v : Int) s.length (s.length : Int) (i : Int) (bytesN s) e0 e1 e2 e3 =
        internal_strconv_ParseUint_36_0_B internal_strconv_lower (fun x0' x1' x2' x3' x4' x5' x6' x7' x8' x9' x10' => internal_strconv_ParseUint_36_0_L n x0' x1' x2' x3' x4' x5' x6' x7' x8' x9' x10' e0 e1 e2 e3) 16 false x22 1152921504606846976 65535 false (v : Int) s.length (s.length : Int) (i : Int) (bytesN s) e0 e1 e2 e3 := rfl
      rw [hL, hr, hexN_step s i v hlt]
      cases hx : hexv s[i] with
      | none => exact ⟨_, rfl⟩
      | some d =>
        have hd := hexv_lt hx
        have : (16 : Nat) ^ (i + 1) = 16 ^ i * 16 := Nat.pow_succ ..
        exact ih (i + 1) (16 * v + d) (by omega) (by omega) (by omega)
    · have e : s.drop i = [] := List.drop_eq_nil_of_le (by omega)
      rw [e]
      simp only [hexN]
      show internal_strconv_ParseUint_36_0_B internal_strconv_lower _ 16 false x22 1152921504606846976 65535 false (v : Int) s.length (s.length : Int) (i : Int) (bytesN s) e0 e1 e2 e3 = _
      unfold internal_strconv_ParseUint_36_0_B
      rw [dfalse (show ¬ (i : Int) < (s.length : Int) by omega), cond_false]

end Go.Proofs.YtifgegmnngfckaaDoor

/-
  Unquote, part 2: four digits. Own work.
-/
set_option linter.unusedVariables false
set_option maxRecDepth 100000
namespace Go.Proofs.YtifgegmnngfckaaDoor
open Go Go.Yard Go.Lib

theorem parse4 {R : Type} {s : Str} (hs : s.length = 4) (k0 k1 : Int → Option R) : strconv_ParseUint s 16 16 k0 k1 = match hexN s 0 with | some u => k1 (u : Int) | none => k0 0 := by
  show strconv_ParseUint_X internal_strconv_ParseUint s 16 16 k0 k1 = _
  unfold strconv_ParseUint_X
  show internal_strconv_ParseUint_X internal_strconv_lower internal_strconv_underscoreOK internal_strconv_ParseUint_36_0_L s 16 16 _ _ _ _ _ = _
  unfold internal_strconv_ParseUint_X
  have h1 : (s == ([] : Str)) = false := by rw [beq_eq_false_iff_ne]; rintro rfl; simp at hs
  rw [h1, cond_false]
  have c1 : decide ((2 : Int) ≤ 16) = true := by decide
  have c2 : decide ((16 : Int) ≤ 36) = true := by decide
  have c3 : ((16 : Int) == 0) = false := by decide
  have c4 : decide ((16 : Int) < 0) = false := by decide
  have c5 : decide ((16 : Int) > 64) = false := by decide
  have c6 : ((16 : Int) == 10) = false := by decide
  have c7 : ((16 : Int) == 16) = true := by decide
  have c8 : decide ((0 : Int) ≤ IntKind.u64.wrap 16) = true := by decide
  have c9 : (IntKind.u64.wrap ((IntKind.u64.wrap (1 * 2 ^ (min ((IntKind.u64.wrap 16).toNat) IntKind.u64.bits))) - 1)) = 65535 := by decide +kernel
  dsimp only
  rw [c1, cond_true, c2, cond_true, c3, cond_false, c4, cond_false, c5, cond_false, c6, cond_false, c7, cond_true]
  rw [c8, chk_pos rfl, c9]
  have hb : decide (s.length ≤ 281474976710656) = true := dtrue (by omega)
  have key := fun (n : Nat) (hn : 4 < n) (e0 : Str → Bool → Int → Option R) (e1 e2 : Int → Str → Bool → Int → Option R) (e3 : Int → Str → Bool → Option R) => uint_loop (R := R) (s := s) (x22 := s) (by omega) e0 e1 e2 e3 n 0 0 (by omega) (by omega) (by omega)
  have z0 : (((0 : Nat) : Int)) = 0 := rfl
  simp only [List.drop_zero, z0] at key
  cases hx : hexN s 0 with
  | some u =>
    simp only [hx] at key
    rw [key _ (by omega)]
    rfl
  | none =>
    simp only [hx] at key
    generalize hF : (Int.natAbs 16 + List.length s + Int.natAbs 1152921504606846976 + Int.natAbs 65535 + Int.natAbs 0 + Int.natAbs (s.length : Int) + Int.natAbs 0 + List.length (bytesN s) + 64) = F at *
    obtain ⟨w, hw⟩ := key F (by rw [← hF]; omega) _ _ _ _
    rw [hw, chk_pos (by rfl), hb, chk_pos rfl]
end Go.Proofs.YtifgegmnngfckaaDoor

/-
  Unquote, part 3: units, escapes, and the whole. Own work.
-/
set_option linter.unusedVariables false
set_option maxRecDepth 100000
namespace Go.Proofs.YtifgegmnngfckaaDoor
open Go Go.Yard Go.Lib

theorem hexN_bound : ∀ (l : Str) (v u : Nat), hexN l v = some u → u < (v + 1) * 16 ^ l.length
  | [], v, u, h => by cases h; simp
  | b :: t, v, u, h => by
    simp only [hexN] at h
    cases hx : hexv b with
    | none => rw [hx] at h; cases h
    | some d =>
      rw [hx] at h
      have h1 := hexN_bound t _ _ h
      have hd := hexv_lt hx
      have h2 : (16 * v + d + 1) * 16 ^ t.length ≤ ((v + 1) * 16) * 16 ^ t.length := Nat.mul_le_mul_right _ (by omega)
      rw [List.length_cons, Nat.pow_succ]
      have h3 : (v + 1) * 16 * 16 ^ t.length = (v + 1) * (16 ^ t.length * 16) := by rw [Nat.mul_assoc, Nat.mul_comm 16]
      omega
theorem hexN_all : ∀ (l : Str) (v u : Nat), hexN l v = some u → ∀ b ∈ l, (hexv b).isSome = true
  | [], v, u, h => by simp
  | b :: t, v, u, h => by
    simp only [hexN] at h
    cases hx : hexv b with
    | none => rw [hx] at h; cases h
    | some d =>
      rw [hx] at h
      intro c hc
      rcases List.mem_cons.1 hc with rfl | hc
      · rw [hx]; rfl
      · exact hexN_all t _ _ h c hc
theorem hexv_asc {b : UInt8} (h : (hexv b).isSome = true) : b.toNat < 128 ∧ b.toNat ≠ 43 ∧ b.toNat ≠ 45 ∧ b.toNat ≠ 95 := by
  unfold hexv at h
  simp only at h
  revert h
  (repeat' split) <;> intro h <;> first | omega | cases h

theorem hasAny_none (cs : Str) : ∀ s : Str, (∀ b ∈ s, cs.contains b = false) → hasAny s cs = false := by
  have key : ∀ s : Str, (∀ b ∈ s, cs.contains b = false) → indexAny s cs = -1 := by
    intro s
    induction s with
    | nil => intro _; rfl
    | cons b s ih =>
      intro h
      unfold indexAny
      rw [h b (by simp)]
      have := ih fun x hx => h x (by simp [hx])
      simp [this]
  intro s h
  unfold hasAny containsAny
  rw [key s h]
  rfl

def unitP (s : Str) : Option (Nat × Str) := if s.length < 4 then none else match hexN (s.take 4) 0 with | some v => some (v, s.drop 4) | none => none
theorem unitP_lt {s r : Str} {v : Nat} (h : unitP s = some (v, r)) : v < 65536 ∧ 4 ≤ s.length ∧ r = s.drop 4 := by
  unfold unitP at h
  split at h
  · cases h
  · rename_i hl
    split at h
    · rename_i u hu
      cases h
      have := hexN_bound _ _ _ hu
      rw [List.length_take, Nat.min_eq_left (by omega)] at this
      exact ⟨by omega, by omega, rfl⟩
    · cases h

theorem wrap32s {n : Nat} (h : n < 1114112) : IntKind.i32.wrap (n : Int) = (n : Int) := wrap32_id (by omega) (by omega)

theorem unit_ok {R : Type} (s : Str) (hs : s.length ≤ 9000000000000000000) (k : Int → Str → Option R) :
    quote_reader_unit_abbd s k = match unitP s with | some (v, r) => k (v : Int) r | none => k (-1) s := by
  show quote_reader_unit_abbd_X strconv_ParseUint s k = _
  unfold quote_reader_unit_abbd_X
  by_cases hl : s.length < 4
  · rw [dtrue (show (s.length : Int) < 4 by omega), cond_true]
    unfold unitP
    rw [if_pos hl]
  · rw [dfalse (show ¬ (s.length : Int) < 4 by omega), cond_false, chk_pos (dtrue (by omega))]
    have h4 : (s.drop 0).take (4 - 0) = s.take 4 := rfl
    rw [h4, parse4 (by rw [List.length_take]; omega)]
    unfold unitP
    rw [if_neg hl]
    cases hu : hexN (s.take 4) 0 with
    | none => rfl
    | some v =>
      have hall := hexN_all _ _ _ hu
      have hasc : isAsc (s.take 4) = true := List.all_eq_true.2 fun b hb => dtrue (hexv_asc (hall b hb)).1
      have hno : hasAny (s.take 4) [43, 45, 95] = false := hasAny_none _ _ fun b hb => by
        obtain ⟨_, g1, g2, g3⟩ := hexv_asc (hall b hb)
        have e : ∀ x : UInt8, b.toNat ≠ x.toNat → (b == x) = false := fun x hx => by
          rw [beq_eq_false_iff_ne]; rintro rfl; exact hx rfl
        simp only [List.contains_cons, List.contains_nil, e 43 g1, e 45 g2, e 95 g3]
        rfl
      have hv := (unitP_lt (s := s) (r := s.drop 4) (v := v) (by unfold unitP; rw [if_neg hl, hu])).1
      have hb2 : isAsc ([43, 45, 95] : Str) = true := by decide
      simp only
      rw [chk_pos (by rw [hasc, hb2, dtrue (show (s.take 4).length < 4294967281 by rw [List.length_take]; omega)]; rfl), hno, cond_false, chk_pos (by rw [dtrue (show (0 : Int) ≤ (s.length : Int) by omega), dtrue (show (s.length : Int) ≤ s.length by omega)]; rfl), chk_pos (dtrue (by omega))]
      rw [wrap32s (by omega), Int.toNat_natCast, List.take_of_length_le (by rw [List.length_drop]; exact Nat.le_refl _)]

def longP (s : Str) : Option (Nat × Str) :=
  match unitP s with
  | none => none
  | some (v, r) =>
    if v < 55296 ∨ 57344 ≤ v then some (v, r) else if 56320 ≤ v then none
    else if ([92, 117] : Str).isPrefixOf r then
      match unitP (r.drop 2) with
      | none => none
      | some (w, r2) => if 56320 ≤ w ∧ w < 57344 then some (65536 + (v - 55296) * 1024 + (w - 56320), r2) else none
    else none

theorem shl10 (n : Nat) (h : n < 1024) : IntKind.i32.wrap ((n : Int) * 2 ^ (min 10 IntKind.i32.bits)) = ((n * 1024 : Nat) : Int) := by
  have e : (n : Int) * 2 ^ (min 10 IntKind.i32.bits) = ((n * 1024 : Nat) : Int) := by
    show (n : Int) * 2 ^ 10 = _
    omega
  rw [e, wrap32s (by omega)]

theorem long_ok {R : Type} (s : Str) (hs : s.length ≤ 9000000000000000000) (k : Int → Str → Option R) :
    match longP s with | some (c, r) => quote_reader_long_abbd s k = k (c : Int) r | none => ∃ r, quote_reader_long_abbd s k = k (-1) r := by
  have e0 : quote_reader_long_abbd s k = quote_reader_long_abbd_X quote_reader_skip_e74a quote_reader_unit_abbd s k := rfl
  rw [e0]
  unfold quote_reader_long_abbd_X
  rw [unit_ok s hs]
  unfold longP
  cases hu : unitP s with
  | none =>
    simp only
    exact ⟨s, by rw [dtrue (show (-1 : Int) < 55296 by omega), cond_true]⟩
  | some p =>
    obtain ⟨v, r⟩ := p
    obtain ⟨hv, hl, hr⟩ := unitP_lt hu
    have hrl : r.length ≤ 9000000000000000000 := by rw [hr, List.length_drop]; omega
    simp only
    by_cases h1 : v < 55296
    · rw [if_pos (.inl h1), dtrue (show (v : Int) < 55296 by omega)]
      simp only [cond_true]
    rw [dfalse (show ¬ (v : Int) < 55296 by omega), cond_false]
    by_cases h2 : 57344 ≤ v
    · rw [if_pos (.inr h2), dtrue (show (v : Int) ≥ 57344 by omega)]
      simp only [cond_true]
    rw [if_neg (by omega), dfalse (show ¬ (v : Int) ≥ 57344 by omega), cond_false]
    by_cases h3 : 56320 ≤ v
    · rw [if_pos h3]
      exact ⟨r, by rw [dtrue (show (v : Int) ≥ 56320 by omega), cond_true]⟩
    rw [if_neg h3, dfalse (show ¬ (v : Int) ≥ 56320 by omega), cond_false, skip_ok _ _ (by simp) hrl]
    cases hp : ([92, 117] : Str).isPrefixOf r with
    | false =>
      simp only [Bool.false_eq_true, if_false]
      exact ⟨r, rfl⟩
    | true =>
      simp only [if_true]
      have hrl2 : (r.drop 2).length ≤ 9000000000000000000 := by rw [List.length_drop]; omega
      have e2 : r.drop ([92, 117] : Str).length = r.drop 2 := rfl
      rw [Bool.not_true, cond_false, e2, unit_ok _ hrl2]
      cases hu2 : unitP (r.drop 2) with
      | none =>
        simp only
        exact ⟨r.drop 2, by rw [dtrue (show (-1 : Int) < 56320 by omega), cond_true]⟩
      | some q =>
        obtain ⟨w, r2⟩ := q
        obtain ⟨hw, hl2, hr2⟩ := unitP_lt hu2
        simp only
        by_cases h4 : 56320 ≤ w ∧ w < 57344
        · rw [if_pos h4]
          simp only
          rw [dfalse (show ¬ (w : Int) < 56320 by omega), cond_false, dfalse (show ¬ (w : Int) ≥ 57344 by omega), cond_false]
          have k1 : IntKind.i32.wrap ((v : Int) - 55296) = ((v - 55296 : Nat) : Int) := by
            have : (v : Int) - 55296 = ((v - 55296 : Nat) : Int) := by omega
            rw [this, wrap32s (by omega)]
          rw [k1, shl10 _ (by omega)]
          have k2 : IntKind.i32.wrap (65536 + (((v - 55296) * 1024 : Nat) : Int)) = ((65536 + (v - 55296) * 1024 : Nat) : Int) := by
            have : 65536 + (((v - 55296) * 1024 : Nat) : Int) = ((65536 + (v - 55296) * 1024 : Nat) : Int) := by omega
            rw [this, wrap32s (by omega)]
          have k3 : IntKind.i32.wrap (((65536 + (v - 55296) * 1024 : Nat) : Int) + (w : Int)) = ((65536 + (v - 55296) * 1024 + w : Nat) : Int) := by
            have : ((65536 + (v - 55296) * 1024 : Nat) : Int) + (w : Int) = ((65536 + (v - 55296) * 1024 + w : Nat) : Int) := by omega
            rw [this]
            simp only [IntKind.wrap, IntKind.bits, IntKind.signed]
            simp
            omega
          have k4 : IntKind.i32.wrap (((65536 + (v - 55296) * 1024 + w : Nat) : Int) - 56320) = ((65536 + (v - 55296) * 1024 + (w - 56320) : Nat) : Int) := by
            have : ((65536 + (v - 55296) * 1024 + w : Nat) : Int) - 56320 = ((65536 + (v - 55296) * 1024 + (w - 56320) : Nat) : Int) := by omega
            rw [this, wrap32s (by omega)]
          rw [k2, k3, k4]
        · rw [if_neg h4]
          refine ⟨r2, ?_⟩
          by_cases h5 : w < 56320
          · rw [dtrue (show (w : Int) < 56320 by omega), cond_true]
          · rw [dfalse (show ¬ (w : Int) < 56320 by omega), cond_false, dtrue (show (w : Int) ≥ 57344 by omega), cond_true]

def escP : Str → Option (Nat × Str)
  | [] => none
  | b :: t =>
    if b.toNat = 34 ∨ b.toNat = 92 ∨ b.toNat = 47 then some (b.toNat, t) else if b.toNat = 98 then some (8, t) else if b.toNat = 102 then some (12, t) else if b.toNat = 110 then some (10, t)
    else if b.toNat = 114 then some (13, t) else if b.toNat = 116 then some (9, t) else if b.toNat = 117 then longP t else none

theorem esc_ok {R : Type} (s : Str) (hs : s.length ≤ 9000000000000000000) (k : Int → Str → Option R) :
    match escP s with | some (c, r) => quote_reader_escaped_abbd s k = k (c : Int) r | none => ∃ r, quote_reader_escaped_abbd s k = k (-1) r := by
  have e0 : quote_reader_escaped_abbd s k = quote_reader_escaped_abbd_X quote_reader_long_abbd s k := rfl
  rw [e0]
  unfold quote_reader_escaped_abbd_X
  cases s with
  | nil => exact ⟨[], rfl⟩
  | cons b t =>
    have hne : ((b :: t : Str) == ([] : Str)) = false := rfl
    simp only [List.length_cons] at hs
    have ht : (((b :: t : Str).drop 1).take (((b :: t : Str).length : Int).toNat - 1)) = t := by
      rw [Int.toNat_natCast, List.drop_succ_cons, List.drop_zero, List.length_cons, Nat.add_sub_cancel, List.take_length]
    have hg : ((b :: t : Str).getD 0 0).toNat = b.toNat := rfl
    rw [hne, cond_false, chk_pos (dtrue (show (0 : Int) < ((b :: t : Str).length : Int) by simp only [List.length_cons]; omega)),
      chk_pos (by rw [dtrue (show (0 : Int) ≤ ((b :: t : Str).length : Int) by omega), dtrue (show ((b :: t : Str).length : Int) ≤ (b :: t : Str).length by omega)]; rfl),
      chk_pos (dtrue (show (1 : Int) ≤ ((b :: t : Str).length : Int) by simp only [List.length_cons]; omega))]
    simp only [ht, hg]
    have hb := UInt8.toNat_lt b
    simp only [escP]
    generalize b.toNat = n at *
    have q : ∀ m : Nat, ((n : Int) == (m : Int)) = decide (n = m) := fun m => by
      by_cases h : n = m
      · subst h; simp
      · have : ¬ ((n : Int) = (m : Int)) := by omega
        simp [h, this]
    have q34 : ((n : Int) == 34) = decide (n = 34) := q 34
    have q92 : ((n : Int) == 92) = decide (n = 92) := q 92
    have q47 : ((n : Int) == 47) = decide (n = 47) := q 47
    have q98 : ((n : Int) == 98) = decide (n = 98) := q 98
    have q102 : ((n : Int) == 102) = decide (n = 102) := q 102
    have q110 : ((n : Int) == 110) = decide (n = 110) := q 110
    have q114 : ((n : Int) == 114) = decide (n = 114) := q 114
    have q116 : ((n : Int) == 116) = decide (n = 116) := q 116
    have q117 : ((n : Int) == 117) = decide (n = 117) := q 117
    simp only [q34, q92, q47, q98, q102, q110, q114, q116, q117, wrap32s (show n < 1114112 by omega)]
    by_cases h34 : n = 34
    · subst h34; simp
    by_cases h92 : n = 92
    · subst h92; simp
    by_cases h47 : n = 47
    · subst h47; simp
    simp only [h34, h92, h47, decide_false, cond_false, or_self, if_false]
    by_cases h98 : n = 98
    · subst h98; simp
    by_cases h102 : n = 102
    · subst h102; simp
    by_cases h110 : n = 110
    · subst h110; simp
    by_cases h114 : n = 114
    · subst h114; simp
    by_cases h116 : n = 116
    · subst h116; simp
    by_cases h117 : n = 117
    · subst h117
      have := long_ok (R := R) t (by omega) k
      simp only [decide_true, decide_false, cond_true, cond_false, if_true, show ¬ ((117 : Nat) = 98) by decide, show ¬ ((117 : Nat) = 102) by decide, show ¬ ((117 : Nat) = 110) by decide, show ¬ ((117 : Nat) = 114) by decide, show ¬ ((117 : Nat) = 116) by decide, if_false]
      exact this
    simp only [h98, h102, h110, h114, h116, h117, decide_false, cond_false, if_false]
    exact ⟨t, rfl⟩
end Go.Proofs.YtifgegmnngfckaaDoor

/-
  Quote: what it writes. Own work.
-/
set_option linter.unusedVariables false
set_option maxRecDepth 100000
namespace Go.Proofs.YtifgegmnngfckaaDoor
open Go Go.Yard Go.Lib

def hexS : Str := [48, 49, 50, 51, 52, 53, 54, 55, 56, 57, 97, 98, 99, 100, 101, 102]
/-- What stands behind a backslash for a rune; 0: nothing. -/
def shortC (c : Nat) : Nat := if c = 34 ∨ c = 92 then c else if c = 8 then 98 else if c = 12 then 102 else if c = 10 then 110 else if c = 13 then 114 else if c = 9 then 116 else 0
/-- A rune, quoted. -/
def qc (c : Nat) : Str := if shortC c ≠ 0 then [92, UInt8.ofNat (shortC c)] else if c < 32 then [92, 117, 48, 48, hexS.getD (c / 16) 0, hexS.getD (c % 16) 0] else enc c
def qcL (rs : List Nat) : Str := rs.flatMap qc
/-- A text of runes, quoted. -/
def qt (rs : List Nat) : Str := 34 :: (qcL rs ++ [34])

theorem shortC_lt (c : Nat) : shortC c < 256 := by unfold shortC; (repeat' split) <;> omega
theorem short_ok {R : Type} (c : Nat) (k : Int → Option R) : quote_short (c : Int) k = k (shortC c : Int) := by
  show quote_short_X (c : Int) k = _
  unfold quote_short_X shortC
  have b : ∀ n : Nat, ((c : Int) == (n : Int)) = decide (c = n) := fun n => by
    by_cases h : c = n
    · subst h; simp
    · have : ¬ ((c : Int) = (n : Int)) := by omega
      simp [h, this]
  have b34 : ((c : Int) == 34) = decide (c = 34) := b 34
  have b92 : ((c : Int) == 92) = decide (c = 92) := b 92
  have b8 : ((c : Int) == 8) = decide (c = 8) := b 8
  have b12 : ((c : Int) == 12) = decide (c = 12) := b 12
  have b10 : ((c : Int) == 10) = decide (c = 10) := b 10
  have b13 : ((c : Int) == 13) = decide (c = 13) := b 13
  have b9 : ((c : Int) == 9) = decide (c = 9) := b 9
  rw [b34, b92, b8, b12, b10, b13, b9]
  have w : IntKind.u8.wrap (c : Int) = ((c % 256 : Nat) : Int) := wrap8 c
  by_cases h34 : c = 34
  · subst h34; rfl
  by_cases h92 : c = 92
  · subst h92; rfl
  simp only [h34, h92, decide_false, cond_false, or_self, if_false]
  by_cases h8 : c = 8
  · subst h8; rfl
  by_cases h12 : c = 12
  · subst h12; rfl
  by_cases h10 : c = 10
  · subst h10; rfl
  by_cases h13 : c = 13
  · subst h13; rfl
  by_cases h9 : c = 9
  · subst h9; rfl
  simp [h8, h12, h10, h13, h9]

theorem runeAt_drop (s : Str) (pos : Nat) : runeAt s pos = decodeL (s.drop pos) := by
  unfold runeAt
  exact (decodeL_drop ⟨s.toArray⟩ pos).symm

theorem enc_head (rs : List Nat) (c : Nat) (t : List Nat) : encL (rs ++ c :: t) = encL rs ++ (enc c ++ encL t) := by simp [encL]

theorem hexdig : ∀ c : Fin 32, (Int.fdiv (c.val : Int) (2 ^ (min 4 IntKind.i32.bits))) = ((c.val / 16 : Nat) : Int) ∧ IntKind.i32.wrap ((BitVec.ofInt IntKind.i32.bits (c.val : Int) &&& BitVec.ofInt IntKind.i32.bits 15).toNat : Int) = ((c.val % 16 : Nat) : Int) := by decide +kernel

theorem qc_len {c : Nat} (hv : vr c) : (qc c).length ≤ 6 := by
  unfold qc
  split
  · simp
  · split
    · simp
    · have := enc_len hv; omega

/-- A ROUND of Quote's loop. -/
theorem quote_round {R : Type} {x : Str} {pos c : Nat} (hp : pos < x.length) {t : Str} (hd : x.drop pos = enc c ++ t) (hv : vr c) (o : Str) (ho : o.length ≤ 90000000000) (rec' : List Int → Str → Nat → Option R) (e0 : List Int → Option R) :
    quote_Quote_6_0_B strings_Builder_WriteByte_4b84 quote_short strings_Builder_WriteString_df1e strings_Builder_WriteRune_dc6e rec' (zs o) x pos e0 = rec' (zs (o ++ qc c)) x (pos + (enc c).length) := by
  unfold quote_Quote_6_0_B
  have hr : runeAt x pos = (c, (enc c).length) := by rw [runeAt_drop, hd, dec_enc hv]
  rw [hr, dtrue hp, cond_true]
  simp only
  rw [short_ok]
  have hlim : ∀ z : Str, z.length ≤ 10 → Lim (o ++ z) := fun z hz => by unfold Lim; rw [List.length_append]; omega
  have hlim0 : Lim o := by unfold Lim; omega
  by_cases hs : shortC c ≠ 0
  · have e : ((shortC c : Int) != 0) = true := by
      exact bne_iff_ne.2 (by omega)
    rw [e, cond_true]
    have h92 : (92 : Int) = ((92 : UInt8).toNat : Int) := rfl
    rw [h92, wb _ o hlim0]
    have h2 : (shortC c : Int) = ((UInt8.ofNat (shortC c)).toNat : Int) := by rw [u8_nat _ (shortC_lt c)]
    rw [h2, wb _ _ (hlim [92] (by simp))]
    have : qc c = [92, UInt8.ofNat (shortC c)] := by unfold qc; rw [if_pos hs]
    rw [this, List.append_assoc]
    rfl
  · have hs0 : shortC c = 0 := by omega
    have e : ((shortC c : Int) != 0) = false := by rw [hs0]; rfl
    rw [e, cond_false]
    by_cases h32 : c < 32
    · rw [dtrue (show (c : Int) < 32 by omega), cond_true, ws _ o (by simp) hlim0]
      obtain ⟨k1, k2⟩ := hexdig ⟨c, h32⟩
      simp only at k1 k2
      rw [k1, k2, chk_pos (by rw [dtrue (by omega), dtrue (by omega)]; rfl)]
      rw [Int.toNat_natCast, Int.toNat_natCast, wb _ _ (hlim [92, 117, 48, 48] (by simp)), chk_pos (by rw [dtrue (by omega), dtrue (by omega)]; rfl)]
      rw [List.append_assoc o, wb _ _ (hlim _ (by simp))]
      have : qc c = [92, 117, 48, 48, hexS.getD (c / 16) 0, hexS.getD (c % 16) 0] := by unfold qc; rw [if_neg hs, if_pos h32]
      rw [this, List.append_assoc o]
      rfl
    · rw [dfalse (show ¬ (c : Int) < 32 by omega), cond_false]
      obtain ⟨n, hn⟩ := wr hv o hlim0 (fun y14 y15 => rec' y15 x (pos + (enc c).length))
      rw [hn]
      have : qc c = enc c := by unfold qc; rw [if_neg hs, if_neg h32]
      rw [this]

theorem quote_loop {R : Type} (rs : List Nat) : ∀ (n : Nat) (done : List Nat) (o : Str), rs.length < n → (∀ c ∈ rs, vr c) → (∀ c ∈ done, vr c) → o.length + 6 * rs.length ≤ 80000000000 → ∀ e0 : List Int → Option R,
    quote_Quote_6_0_L n (zs o) (encL (done ++ rs)) (encL done).length e0 = e0 (zs (o ++ qcL rs)) := by
  induction rs with
  | nil =>
    intro n done o hn _ _ _ e0
    obtain ⟨m, rfl⟩ : ∃ m, n = m + 1 := ⟨n - 1, by simp at hn; omega⟩
    show quote_Quote_6_0_B strings_Builder_WriteByte_4b84 quote_short strings_Builder_WriteString_df1e strings_Builder_WriteRune_dc6e _ (zs o) (encL (done ++ [])) (encL done).length e0 = _
    unfold quote_Quote_6_0_B
    rw [List.append_nil, dfalse (Nat.lt_irrefl _), cond_false]
    simp [qcL]
  | cons c rs ih =>
    intro n done o hn hr hd hl e0
    obtain ⟨m, rfl⟩ : ∃ m, n = m + 1 := ⟨n - 1, by simp at hn; omega⟩
    have hv := hr c (by simp)
    have he := enc_len hv
    have hq := qc_len hv
    simp only [List.length_cons] at hn hl
    show quote_Quote_6_0_B strings_Builder_WriteByte_4b84 quote_short strings_Builder_WriteString_df1e strings_Builder_WriteRune_dc6e (fun x0' x1' x2' => quote_Quote_6_0_L m x0' x1' x2' e0) (zs o) (encL (done ++ c :: rs)) (encL done).length e0 = _
    rw [quote_round (c := c) (t := encL rs) (by rw [enc_head, List.length_append, List.length_append]; omega) (by rw [enc_head, List.drop_left]) hv o (by omega)]
    have e1 : done ++ c :: rs = (done ++ [c]) ++ rs := by simp
    have e2 : (encL done).length + (enc c).length = (encL (done ++ [c])).length := by rw [encL_snoc, List.length_append]
    rw [e1, e2, ih m (done ++ [c]) (o ++ qc c) (by omega) (fun x hx => hr x (by simp [hx])) (fun x hx => by
      rcases List.mem_append.1 hx with h | h
      · exact hd x h
      · simp at h; subst h; exact hv) (by rw [List.length_append]; omega)]
    rw [List.append_assoc]
    rfl

theorem encL_count : ∀ (rs : List Nat), (∀ c ∈ rs, vr c) → rs.length ≤ (encL rs).length ∧ (encL rs).length ≤ 4 * rs.length
  | [], _ => by simp [encL]
  | c :: rs, h => by
    have h1 := enc_len (h c (by simp))
    have h2 := encL_count rs (fun x hx => h x (by simp [hx]))
    have : encL (c :: rs) = enc c ++ encL rs := by simp [encL]
    rw [this, List.length_append, List.length_cons]
    omega
theorem qcL_count : ∀ (rs : List Nat), (∀ c ∈ rs, vr c) → (qcL rs).length ≤ 6 * rs.length
  | [], _ => by simp [qcL]
  | c :: rs, h => by
    have h1 := qc_len (h c (by simp))
    have h2 := qcL_count rs (fun x hx => h x (by simp [hx]))
    have : qcL (c :: rs) = qc c ++ qcL rs := by simp [qcL]
    rw [this, List.length_append, List.length_cons]
    omega

/-- QUOTE of a text of runes. -/
theorem quote_ok {R : Type} (rs : List Nat) (hr : ∀ c ∈ rs, vr c) (hl : rs.length ≤ 10000000000) (k : Str → Bool → Option R) : quote_Quote (encL rs) k = k (qt rs) true := by
  have hc := encL_count rs hr
  have hq := qcL_count rs hr
  have hw : validS (encL rs) = true := whole_iff.2 ⟨rs, hr, rfl⟩
  show quote_Quote_X quote_Whole strings_Builder_WriteByte_b66c strings_Builder_WriteByte_4b84 quote_Quote_6_0_L (encL rs) k = _
  unfold quote_Quote_X
  have q : ∀ (x : Str) (f : Bool → Option R), quote_Whole x f = f (validS x) := fun _ _ => rfl
  have q2 : ∀ (x : Int) (f : List Int → Option R), strings_Builder_WriteByte_b66c x f = f [x] := fun _ _ => rfl
  rw [q, hw, Bool.not_true, cond_false, q2]
  have e34 : ([34] : List Int) = zs [34] := rfl
  rw [e34]
  have := quote_loop (R := R) rs (List.length (zs [34]) + List.length (encL rs) + 64) [] [34] (by omega) hr (by simp) (by simp; omega)
  rw [List.nil_append] at this
  have e0 : (encL []).length = 0 := rfl
  rw [e0] at this
  rw [this]
  have h34 : (34 : Int) = ((34 : UInt8).toNat : Int) := rfl
  rw [h34, wb _ _ (by unfold Lim; rw [List.length_append]; simp; omega), bstr_zs]
  rfl

/-- QUOTE of what is not whole. -/
theorem quote_bad {R : Type} (s : Str) (h : validS s = false) (k : Str → Bool → Option R) : quote_Quote s k = k [] false := by
  show quote_Quote_X quote_Whole strings_Builder_WriteByte_b66c strings_Builder_WriteByte_4b84 quote_Quote_6_0_L s k = _
  unfold quote_Quote_X
  have q : ∀ (x : Str) (f : Bool → Option R), quote_Whole x f = f (validS x) := fun _ _ => rfl
  rw [q, h]
  rfl
end Go.Proofs.YtifgegmnngfckaaDoor

/-
  Unquote, part 4: its loop, and what it answers. Own work.
-/
set_option linter.unusedVariables false
set_option maxRecDepth 100000
namespace Go.Proofs.YtifgegmnngfckaaDoor
open Go Go.Yard Go.Lib

def stepU (s : Str) : Option (Nat × Str) := if ([92] : Str).isPrefixOf s then escP (s.drop 1) else plainP s
def uq : Nat → Str → Str → Option (Str × Str)
  | 0, _, _ => none
  | n + 1, s, o => if ([34] : Str).isPrefixOf s then some (o, s.drop 1) else match stepU s with | none => none | some (c, r) => uq n r (o ++ enc c)

theorem longP_ok {s r : Str} {c : Nat} (h : longP s = some (c, r)) : vr c ∧ r.length + 4 ≤ s.length := by
  unfold longP at h
  split at h
  · cases h
  · rename_i v r1 hu
    obtain ⟨hv, hl, hr⟩ := unitP_lt hu
    split at h
    · cases h
      refine ⟨by unfold vr; omega, ?_⟩
      rw [hr, List.length_drop]; omega
    · split at h
      · cases h
      · split at h
        · split at h
          · cases h
          · rename_i w r2 hu2
            obtain ⟨hw, hl2, hr2⟩ := unitP_lt hu2
            split at h
            · simp only [Option.some.injEq, Prod.mk.injEq] at h
              obtain ⟨hc, rfl⟩ := h
              refine ⟨by unfold vr; omega, ?_⟩
              rw [hr2, hr]
              simp only [List.length_drop]
              rw [hr] at hl2
              simp only [List.length_drop] at hl2
              omega
            · cases h
        · cases h

theorem escP_ok {s r : Str} {c : Nat} (h : escP s = some (c, r)) : vr c ∧ r.length < s.length := by
  cases s with
  | nil => cases h
  | cons b t =>
    simp only [escP] at h
    have hb := UInt8.toNat_lt b
    split at h
    · cases h; exact ⟨by unfold vr; omega, by simp⟩
    split at h
    · cases h; exact ⟨by unfold vr; omega, by simp⟩
    split at h
    · cases h; exact ⟨by unfold vr; omega, by simp⟩
    split at h
    · cases h; exact ⟨by unfold vr; omega, by simp⟩
    split at h
    · cases h; exact ⟨by unfold vr; omega, by simp⟩
    split at h
    · cases h; exact ⟨by unfold vr; omega, by simp⟩
    split at h
    · obtain ⟨h1, h2⟩ := longP_ok h
      exact ⟨h1, by simp only [List.length_cons]; omega⟩
    · cases h

theorem plainP_ok {s r : Str} {c : Nat} (h : plainP s = some (c, r)) : vr c ∧ r.length < s.length := by
  unfold plainP at h
  split at h
  · cases h
  · rename_i hne
    split at h
    · cases h
    · split at h
      · cases h
      · cases h
        have h1 := decodeL_width s
        have h2 : 0 < s.length := List.length_pos_iff.2 hne
        exact ⟨dec_vr s, by rw [List.length_drop]; omega⟩

theorem stepU_ok {s r : Str} {c : Nat} (h : stepU s = some (c, r)) : vr c ∧ r.length < s.length := by
  unfold stepU at h
  split at h
  · obtain ⟨h1, h2⟩ := escP_ok h
    exact ⟨h1, by rw [List.length_drop] at h2; omega⟩
  · exact plainP_ok h

theorem uq_fuel : ∀ (n m : Nat) (s o : Str), s.length < n → s.length < m → uq n s o = uq m s o
  | 0, _, _, _, h, _ => by omega
  | _ + 1, 0, _, _, _, h => by omega
  | n + 1, m + 1, s, o, hn, hm => by
    unfold uq
    split
    · rfl
    · cases hs : stepU s with
      | none => rfl
      | some p =>
        obtain ⟨c, r⟩ := p
        obtain ⟨_, h2⟩ := stepU_ok hs
        exact uq_fuel n m r _ (by omega) (by omega)

theorem unq_loop {R : Type} (x : Str) (e0 : Str → Str → List Int → Option R) (e1 : Str → Str → Int → Bool → Str → List Int → Option R) : ∀ (n : Nat) (s o : Str), s.length < n → o.length + 4 * s.length ≤ 90000000000 →
    (match uq n s o with
     | some (o', r) => quote_Unquote_5_0_L n x s (zs o) e0 e1 = e0 x r (zs o')
     | none => ∃ a b, quote_Unquote_5_0_L n x s (zs o) e0 e1 = e1 x [] 0 false a b) := by
  intro n
  induction n with
  | zero => intro s o h; omega
  | succ n ih =>
    intro s o h hb
    have hL : quote_Unquote_5_0_L (n + 1) x s (zs o) e0 e1 = quote_Unquote_5_0_B strings_Builder_WriteRune_dc6e quote_reader_skip_e74a quote_reader_plain_abbd quote_reader_escaped_abbd (fun x0' x1' x2' => quote_Unquote_5_0_L n x0' x1' x2' e0 e1) x s (zs o) e0 e1 := rfl
    rw [hL]
    unfold quote_Unquote_5_0_B
    rw [skip_ok _ _ (by simp) (by omega)]
    simp only [uq]
    have hlim : Lim o := by unfold Lim; omega
    by_cases h34 : ([34] : Str).isPrefixOf s = true
    · rw [if_pos h34, if_pos h34]
      rfl
    · rw [if_neg h34, if_neg h34, Bool.not_false, cond_true, skip_ok _ _ (by simp) (by omega)]
      have fin : ∀ (c : Nat) (r : Str), vr c → r.length < s.length →
          (match uq n r (o ++ enc c) with
           | some (o', r') => quote_Unquote_5_0_L n x r (zs (o ++ enc c)) e0 e1 = e0 x r' (zs o')
           | none => ∃ a b, quote_Unquote_5_0_L n x r (zs (o ++ enc c)) e0 e1 = e1 x [] 0 false a b) := fun c r hv hr => by
        have := enc_len hv
        exact ih r (o ++ enc c) (by omega) (by rw [List.length_append]; omega)
      unfold stepU
      by_cases h92 : ([92] : Str).isPrefixOf s = true
      · rw [if_pos h92, if_pos h92]
        have e1' : s.drop ([92] : Str).length = s.drop 1 := rfl
        rw [e1', cond_true]
        have hk := esc_ok (R := R) (s.drop 1) (by rw [List.length_drop]; omega) (fun y11 y12 => bif (decide (y11 < (0 : Int))) then (e1 x ([] : Str) 0 false y12 (zs o)) else (strings_Builder_WriteRune_dc6e y11 (zs o) (fun y13 y14 => quote_Unquote_5_0_L n x y12 y14 e0 e1)))
        cases he : escP (s.drop 1) with
        | none =>
          rw [he] at hk
          obtain ⟨r, hk⟩ := hk
          exact ⟨r, zs o, hk.trans (by rw [dtrue (show (-1 : Int) < 0 by omega), cond_true])⟩
        | some p =>
          obtain ⟨c, r⟩ := p
          rw [he] at hk
          obtain ⟨hv, hr⟩ := escP_ok he
          rw [List.length_drop] at hr
          simp only at hk ⊢
          rw [hk, dfalse (show ¬ (c : Int) < 0 by omega), cond_false]
          obtain ⟨q, hq⟩ := wr hv o hlim (fun y13 y14 => quote_Unquote_5_0_L n x r y14 e0 e1)
          rw [hq]
          exact fin c r hv (by omega)
      · rw [if_neg h92, if_neg h92, cond_false]
        have hk := plain_ok (R := R) s (by omega) (fun y15 y16 => bif (decide (y15 < (0 : Int))) then (e1 x ([] : Str) 0 false y16 (zs o)) else (strings_Builder_WriteRune_dc6e y15 (zs o) (fun y17 y18 => quote_Unquote_5_0_L n x y16 y18 e0 e1)))
        cases he : plainP s with
        | none =>
          rw [he] at hk
          simp only at hk ⊢
          exact ⟨s, zs o, hk.trans (by rw [dtrue (show (-1 : Int) < 0 by omega), cond_true])⟩
        | some p =>
          obtain ⟨c, r⟩ := p
          rw [he] at hk
          obtain ⟨hv, hr⟩ := plainP_ok he
          simp only at hk ⊢
          rw [hk, dfalse (show ¬ (c : Int) < 0 by omega), cond_false]
          obtain ⟨q, hq⟩ := wr hv o hlim (fun y17 y18 => quote_Unquote_5_0_L n x r y18 e0 e1)
          rw [hq]
          exact fin c r hv (by omega)

/-- What Unquote answers: the text, and what is left. -/
def uqS (s : Str) : Option (Str × Str) := if ([34] : Str).isPrefixOf s then uq (s.length + 1) (s.drop 1) [] else none

theorem unquote_ok {R : Type} (s : Str) (hs : s.length ≤ 20000000000) (k : Str → Int → Bool → Option R) :
    quote_Unquote s k = match uqS s with | some (o, r) => k o (IntKind.i64.wrap ((s.length : Int) - (r.length : Int))) true | none => k [] 0 false := by
  have e : quote_Unquote s k = quote_Unquote_X quote_reader_skip_e74a quote_Unquote_5_0_L s k := rfl
  rw [e]
  unfold quote_Unquote_X uqS
  rw [skip_ok _ _ (by simp) (by omega)]
  by_cases h34 : ([34] : Str).isPrefixOf s = true
  · rw [if_pos h34, if_pos h34, Bool.not_true, cond_false]
    have e1 : s.drop ([34] : Str).length = s.drop 1 := rfl
    rw [e1]
    have hd : (s.drop 1).length ≤ s.length := by rw [List.length_drop]; omega
    have key := unq_loop (R := R) s (fun y19 y20 y21 => k (bstr y21) (IntKind.i64.wrap ((y19.length : Int) - (y20.length : Int))) true) (fun y22 y23 y24 y25 y26 y27 => k y23 y24 y25) (List.length s + List.length (s.drop 1) + List.length ([] : List Int) + 64) (s.drop 1) [] (by omega) (by simp only [List.length_nil]; omega)
    rw [uq_fuel _ (s.length + 1) (s.drop 1) [] (by omega) (by omega)] at key
    cases hu : uq (s.length + 1) (s.drop 1) [] with
    | none =>
      rw [hu] at key
      obtain ⟨a, b, key⟩ := key
      exact key
    | some p =>
      obtain ⟨o, r⟩ := p
      rw [hu] at key
      simp only at key ⊢
      refine Eq.trans key ?_
      rw [bstr_zs]
  · rw [if_neg h34, if_neg h34]
    rfl

/-! ### what Quote wrote -/
theorem pre_cons (a b : UInt8) (t : Str) : ([a] : Str).isPrefixOf (b :: t) = (a == b) := by
  simp [List.isPrefixOf]

theorem hex_back : ∀ c : Fin 32, hexN [48, 48, hexS.getD (c.val / 16) 0, hexS.getD (c.val % 16) 0] 0 = some c.val := by decide +kernel

theorem u8_ne {b : UInt8} {n : Nat} (hn : n < 256) (h : b.toNat ≠ n) : ((UInt8.ofNat n) == b) = false := by
  rw [beq_eq_false_iff_ne]
  rintro rfl
  rw [u8_nat n hn] at h
  exact h rfl

theorem enc_first {c : Nat} (hv : vr c) (h : 32 ≤ c) (h34 : c ≠ 34) (h92 : c ≠ 92) : ∃ b t, enc c = b :: t ∧ b.toNat ≠ 34 ∧ b.toNat ≠ 92 := by
  have hlt := vr_lt hv
  rcases enc_cases hv with ⟨h1, e⟩ | ⟨h0, h1, e⟩ | ⟨h0, h1, e⟩ | ⟨h0, e⟩
  · exact ⟨_, _, e, by rw [u8_nat _ (by omega)]; exact h34, by rw [u8_nat _ (by omega)]; exact h92⟩
  · exact ⟨_, _, e, by rw [u8_nat _ (by omega)]; omega, by rw [u8_nat _ (by omega)]; omega⟩
  · exact ⟨_, _, e, by rw [u8_nat _ (by omega)]; omega, by rw [u8_nat _ (by omega)]; omega⟩
  · exact ⟨_, _, e, by rw [u8_nat _ (by omega)]; omega, by rw [u8_nat _ (by omega)]; omega⟩

theorem shortC_cases (c : Nat) : (shortC c = 0 ∧ c ≠ 34 ∧ c ≠ 92) ∨ c = 34 ∨ c = 92 ∨ c = 8 ∨ c = 12 ∨ c = 10 ∨ c = 13 ∨ c = 9 := by
  unfold shortC
  by_cases h1 : c = 34 <;> by_cases h2 : c = 92 <;> by_cases h3 : c = 8 <;> by_cases h4 : c = 12 <;> by_cases h5 : c = 10 <;> by_cases h6 : c = 13 <;> by_cases h7 : c = 9 <;> simp [h1, h2, h3, h4, h5, h6, h7]

theorem qc_hex {c : Nat} (h0 : shortC c = 0) (h : c < 32) : qc c = [92, 117, 48, 48, hexS.getD (c / 16) 0, hexS.getD (c % 16) 0] := by unfold qc; rw [if_neg (by omega), if_pos h]
theorem qc_enc {c : Nat} (h0 : shortC c = 0) (h : ¬ c < 32) : qc c = enc c := by unfold qc; rw [if_neg (by omega), if_neg h]

/-- What stands quoted is read back. -/
theorem step_qc {c : Nat} (hv : vr c) (t : Str) : ([34] : Str).isPrefixOf (qc c ++ t) = false ∧ stepU (qc c ++ t) = some (c, t) := by
  rcases shortC_cases c with ⟨h0, h34, h92⟩ | rfl | rfl | rfl | rfl | rfl | rfl | rfl
  · by_cases h32 : c < 32
    · rw [qc_hex h0 h32]
      refine ⟨rfl, ?_⟩
      have hb := hex_back ⟨c, h32⟩
      simp only at hb
      show longP (48 :: 48 :: hexS.getD (c / 16) 0 :: hexS.getD (c % 16) 0 :: t) = some (c, t)
      have hu : unitP (48 :: 48 :: hexS.getD (c / 16) 0 :: hexS.getD (c % 16) 0 :: t) = some (c, t) := by
        unfold unitP
        rw [if_neg (by simp only [List.length_cons]; omega)]
        have e : List.take 4 (48 :: 48 :: hexS.getD (c / 16) 0 :: hexS.getD (c % 16) 0 :: t) = [48, 48, hexS.getD (c / 16) 0, hexS.getD (c % 16) 0] := rfl
        rw [e, hb]
        rfl
      unfold longP
      rw [hu]
      simp only
      rw [if_pos (.inl (by omega))]
    · rw [qc_enc h0 h32]
      obtain ⟨b, u, e, g1, g2⟩ := enc_first hv (by omega) h34 h92
      have e2 : enc c ++ t = b :: (u ++ t) := by rw [e]; rfl
      refine ⟨?_, ?_⟩
      · rw [e2, pre_cons]
        exact u8_ne (n := 34) (by omega) g1
      · unfold stepU
        have : ([92] : Str).isPrefixOf (enc c ++ t) = false := by
          rw [e2, pre_cons]
          exact u8_ne (n := 92) (by omega) g2
        rw [this]
        simp only [Bool.false_eq_true, if_false]
        unfold plainP
        rw [if_neg (enc_ne hv t), dec_enc hv t]
        simp only
        have hg := good_enc hv t
        unfold good at hg
        rw [dec_enc hv t] at hg
        simp only at hg
        rw [if_neg hg, if_neg h32, List.drop_left]
  · exact ⟨rfl, rfl⟩
  · exact ⟨rfl, rfl⟩
  · exact ⟨rfl, rfl⟩
  · exact ⟨rfl, rfl⟩
  · exact ⟨rfl, rfl⟩
  · exact ⟨rfl, rfl⟩
  · exact ⟨rfl, rfl⟩

theorem uq_qc : ∀ (rs : List Nat), (∀ c ∈ rs, vr c) → ∀ (n : Nat) (o more : Str), rs.length < n → uq n (qcL rs ++ 34 :: more) o = some (o ++ encL rs, more)
  | [], _, n, o, more, hn => by
    obtain ⟨m, rfl⟩ : ∃ m, n = m + 1 := ⟨n - 1, by simp at hn; omega⟩
    have : qcL [] ++ 34 :: more = 34 :: more := rfl
    rw [this]
    simp [uq, List.isPrefixOf, encL]
  | c :: rs, hr, n, o, more, hn => by
    obtain ⟨m, rfl⟩ : ∃ m, n = m + 1 := ⟨n - 1, by simp at hn; omega⟩
    have hv := hr c (by simp)
    have e : qcL (c :: rs) ++ 34 :: more = qc c ++ (qcL rs ++ 34 :: more) := by simp [qcL]
    obtain ⟨h1, h2⟩ := step_qc hv (qcL rs ++ 34 :: more)
    rw [e]
    simp only [uq, h1, h2, Bool.false_eq_true, if_false]
    rw [uq_qc rs (fun x hx => hr x (by simp [hx])) m (o ++ enc c) more (by simp at hn; omega)]
    simp [encL]

theorem qc_pos {c : Nat} (hv : vr c) : 1 ≤ (qc c).length := by
  unfold qc
  split
  · simp
  · split
    · simp
    · exact (enc_len hv).1
theorem qcL_pos : ∀ (rs : List Nat), (∀ c ∈ rs, vr c) → rs.length ≤ (qcL rs).length
  | [], _ => by simp [qcL]
  | c :: rs, h => by
    have h1 := qc_pos (h c (by simp))
    have h2 := qcL_pos rs (fun x hx => h x (by simp [hx]))
    have : qcL (c :: rs) = qc c ++ qcL rs := by simp [qcL]
    rw [this, List.length_append, List.length_cons]
    omega

/-- UNQUOTE UNDOES QUOTE, whatever stands behind. -/
theorem uqS_qt (rs : List Nat) (hr : ∀ c ∈ rs, vr c) (more : Str) : uqS (qt rs ++ more) = some (encL rs, more) := by
  have e : qt rs ++ more = 34 :: (qcL rs ++ 34 :: more) := by unfold qt; simp
  have hq := qcL_pos rs hr
  rw [e]
  unfold uqS
  rw [pre_cons]
  simp only [BEq.rfl, if_true, List.drop_succ_cons, List.drop_zero]
  have := uq_qc rs hr ((34 :: (qcL rs ++ 34 :: more)).length + 1) [] more (by simp only [List.length_cons, List.length_append]; omega)
  rw [this]
  rfl
end Go.Proofs.YtifgegmnngfckaaDoor

/-
  Functions of the program as pure Lean functions, and the ties; printed by wip/tools/emit.py.
-/
set_option maxRecDepth 100000
set_option linter.unusedVariables false
namespace Go.Proofs.YtifgegmnngfckaaDoor
open Go Go.Yard

/-! ### humpyard/humpyardlaw02.QuoteCut -/
abbrev law02_QuoteCut_ty (R : Type) : Type := (List Int) → Int → (Bool → Option R) → Option R
abbrev law02_QuoteCut_p : List Pat := [.leaf (.sl (.int .i64)), .leaf (.int .i64)]
abbrev law02_QuoteCut_q : List HPat := []
noncomputable def law02_QuoteCut_rr {R : Type} (fn : law02_QuoteCut_ty R) : Pat.dens law02_QuoteCut_p → HPat.dens law02_QuoteCut_q → (V → Heap → Option R) → Option R := fun x y k => fn x.1 x.2.1 (fun q0 => k (.bool q0) [])
noncomputable def law02_QuoteCut_E (R : Type) (law02_awake : law02_awake_ty R) (law02_Text : law02_Text_ty R) (law02_pick : law02_pick_ty R) (quote_Quote : quote_Quote_ty R) (quote_Unquote : quote_Unquote_ty R) : Env R := fun i => match i with
  | 17 => some (true, (specBy law02_awake_p law02_awake_q (law02_awake_rr law02_awake) specNo))
  | 18 => some (true, (specBy law02_Text_p law02_Text_q (law02_Text_rr law02_Text) specNo))
  | 20 => some (true, (specBy law02_pick_p law02_pick_q (law02_pick_rr law02_pick) specNo))
  | 21 => some (true, (specBy quote_Quote_p quote_Quote_q (quote_Quote_rr quote_Quote) specNo))
  | 22 => some (true, (specBy quote_Unquote_p quote_Unquote_q (quote_Unquote_rr quote_Unquote) specNo))
  | _ => none
theorem law02_QuoteCut_EOk (R : Type) : EOk Tryd.prog (law02_QuoteCut_E R law02_awake law02_Text law02_pick quote_Quote quote_Unquote) := by
  intro i b sp h
  unfold law02_QuoteCut_E at h
  split at h
  · cases h; exact ⟨(law02_awake_S_ok R _ (specNo_ok _)), fun h => nomatch h⟩
  · cases h; exact ⟨(law02_Text_S_ok R _ (specNo_ok _)), fun h => nomatch h⟩
  · cases h; exact ⟨(law02_pick_S_ok R _ (specNo_ok _)), fun h => nomatch h⟩
  · cases h; exact ⟨(quote_Quote_S_ok R _ (specNo_ok _)), fun h => nomatch h⟩
  · cases h; exact ⟨(quote_Unquote_S_ok R _ (specNo_ok _)), fun h => nomatch h⟩
  · cases h

noncomputable def law02_QuoteCut_T (R : Type) : Nat → Option (Hint × LSpec R) := fun i => match i with
  | _ => none

noncomputable def law02_QuoteCut_X {R : Type} (law02_awake : law02_awake_ty R) (law02_Text : law02_Text_ty R) (law02_pick : law02_pick_ty R) (quote_Quote : quote_Quote_ty R) (quote_Unquote : quote_Unquote_ty R) (x1 : List Int) (x2 : Int) (k0 : Bool → Option R) : Option R :=
  law02_awake (fun y3 => law02_Text x1 (fun y4 => quote_Quote y4 (fun y5 y6 => bif (!y3) then (k0 false) else (bif (!y6) then (k0 false) else (bif (y5 == ([] : Str)) then (k0 false) else (law02_pick x2 (y5.length : Int) (fun y8 => chk (decide ((0 : Int) ≤ y8) && decide (y8 ≤ y5.length)) (chk (decide ((0 : Int) ≤ y8)) (quote_Unquote ((y5.drop 0).take (y8.toNat - 0)) (fun y9 y10 y11 => bif (!y11) then (bif (y9 == ([] : Str)) then (k0 (y10 == 0)) else (k0 false)) else (k0 false)))))))))))
noncomputable def law02_QuoteCut {R : Type} : law02_QuoteCut_ty R := fun x1 x2 k0 => law02_QuoteCut_X law02_awake law02_Text law02_pick quote_Quote quote_Unquote x1 x2 k0
theorem law02_QuoteCut_ok {R : Type} (law02_awake : law02_awake_ty R) (law02_Text : law02_Text_ty R) (law02_pick : law02_pick_ty R) (quote_Quote : quote_Quote_ty R) (quote_Unquote : quote_Unquote_ty R) (x1 : List Int) (x2 : Int) (k : V → Heap → Option R) : funK tt (law02_QuoteCut_E R law02_awake law02_Text law02_pick quote_Quote quote_Unquote) (law02_QuoteCut_T R) false Tryd.f8 (codeOf Tryd.f8) [.sl (.int .i64) x1 .no, .int .i64 x2] [] k =
    law02_QuoteCut_X law02_awake law02_Text law02_pick quote_Quote quote_Unquote x1 x2 (fun q0 => k (.bool q0) []) := by kernel_rfl
theorem law02_QuoteCut_loops (R : Type) : ∀ a ∈ loopsOf (codeOf Tryd.f8), LoopOk tt (law02_QuoteCut_E R law02_awake law02_Text law02_pick quote_Quote quote_Unquote) (law02_QuoteCut_T R) 0 a := by
  refine loops_ok 0 (by kernel_rfl) fun i hi => ?_
  omega
theorem law02_QuoteCut_S_ok (R : Type) (other : Yard.Spec R) (ho : Yard.Spec.Ok Tryd.prog 8 other) : Yard.Spec.Ok Tryd.prog 8 (specBy law02_QuoteCut_p law02_QuoteCut_q (law02_QuoteCut_rr law02_QuoteCut) other) :=
  specBy_ok ho (funK_sound TT mixed (law02_QuoteCut_EOk R) (keep := false) rfl rfl rfl rfl 0 (law02_QuoteCut_loops R)) fun (x : Pat.dens law02_QuoteCut_p) (y : HPat.dens law02_QuoteCut_q) k => law02_QuoteCut_ok law02_awake law02_Text law02_pick quote_Quote quote_Unquote x.1 x.2.1 k

/-! ### humpyard/humpyardlaw02.QuoteWhole -/
abbrev law02_QuoteWhole_ty (R : Type) : Type := Str → (List Int) → (Bool → Option R) → Option R
abbrev law02_QuoteWhole_p : List Pat := [.leaf (.str), .leaf (.sl (.int .i64))]
abbrev law02_QuoteWhole_q : List HPat := []
noncomputable def law02_QuoteWhole_rr {R : Type} (fn : law02_QuoteWhole_ty R) : Pat.dens law02_QuoteWhole_p → HPat.dens law02_QuoteWhole_q → (V → Heap → Option R) → Option R := fun x y k => fn x.1 x.2.1 (fun q0 => k (.bool q0) [])
noncomputable def law02_QuoteWhole_E (R : Type) (law02_awake : law02_awake_ty R) (law02_Text : law02_Text_ty R) (quote_Whole : quote_Whole_ty R) : Env R := fun i => match i with
  | 17 => some (true, (specBy law02_awake_p law02_awake_q (law02_awake_rr law02_awake) specNo))
  | 18 => some (true, (specBy law02_Text_p law02_Text_q (law02_Text_rr law02_Text) specNo))
  | 24 => some (true, (specBy quote_Whole_p quote_Whole_q (quote_Whole_rr quote_Whole) specNo))
  | _ => none
theorem law02_QuoteWhole_EOk (R : Type) : EOk Tryd.prog (law02_QuoteWhole_E R law02_awake law02_Text quote_Whole) := by
  intro i b sp h
  unfold law02_QuoteWhole_E at h
  split at h
  · cases h; exact ⟨(law02_awake_S_ok R _ (specNo_ok _)), fun h => nomatch h⟩
  · cases h; exact ⟨(law02_Text_S_ok R _ (specNo_ok _)), fun h => nomatch h⟩
  · cases h; exact ⟨(quote_Whole_S_ok R _ (specNo_ok _)), fun h => nomatch h⟩
  · cases h

noncomputable def law02_QuoteWhole_T (R : Type) : Nat → Option (Hint × LSpec R) := fun i => match i with
  | _ => none

noncomputable def law02_QuoteWhole_X {R : Type} (law02_awake : law02_awake_ty R) (law02_Text : law02_Text_ty R) (quote_Whole : quote_Whole_ty R) (x1 : Str) (x2 : List Int) (k0 : Bool → Option R) : Option R :=
  law02_awake (fun y3 => law02_Text x2 (fun y4 => bif y3 then (quote_Whole y4 (fun y5 => bif y5 then (chk (decide (y4.length + x1.length ≤ 9223372036854775807)) (quote_Whole (y4 ++ x1) (fun y6 => quote_Whole x1 (fun y7 => bif (y6 == y7) then (chk (decide (x1.length + 1 ≤ 9223372036854775807)) (chk (decide ((x1 ++ ([97] : Str)).length + y4.length ≤ 9223372036854775807)) (quote_Whole ((x1 ++ ([97] : Str)) ++ y4) (fun y8 => quote_Whole x1 (fun y9 => k0 (y8 == y9)))))) else (k0 false))))) else (k0 false))) else (k0 false)))
noncomputable def law02_QuoteWhole {R : Type} : law02_QuoteWhole_ty R := fun x1 x2 k0 => law02_QuoteWhole_X law02_awake law02_Text quote_Whole x1 x2 k0
theorem law02_QuoteWhole_ok {R : Type} (law02_awake : law02_awake_ty R) (law02_Text : law02_Text_ty R) (quote_Whole : quote_Whole_ty R) (x1 : Str) (x2 : List Int) (k : V → Heap → Option R) : funK tt (law02_QuoteWhole_E R law02_awake law02_Text quote_Whole) (law02_QuoteWhole_T R) false Tryd.f9 (codeOf Tryd.f9) [.str x1, .sl (.int .i64) x2 .no] [] k =
    law02_QuoteWhole_X law02_awake law02_Text quote_Whole x1 x2 (fun q0 => k (.bool q0) []) := by kernel_rfl
theorem law02_QuoteWhole_loops (R : Type) : ∀ a ∈ loopsOf (codeOf Tryd.f9), LoopOk tt (law02_QuoteWhole_E R law02_awake law02_Text quote_Whole) (law02_QuoteWhole_T R) 0 a := by
  refine loops_ok 0 (by kernel_rfl) fun i hi => ?_
  omega
theorem law02_QuoteWhole_S_ok (R : Type) (other : Yard.Spec R) (ho : Yard.Spec.Ok Tryd.prog 9 other) : Yard.Spec.Ok Tryd.prog 9 (specBy law02_QuoteWhole_p law02_QuoteWhole_q (law02_QuoteWhole_rr law02_QuoteWhole) other) :=
  specBy_ok ho (funK_sound TT mixed (law02_QuoteWhole_EOk R) (keep := false) rfl rfl rfl rfl 0 (law02_QuoteWhole_loops R)) fun (x : Pat.dens law02_QuoteWhole_p) (y : HPat.dens law02_QuoteWhole_q) k => law02_QuoteWhole_ok law02_awake law02_Text quote_Whole x.1 x.2.1 k

/-! ### (*humpyard/decimal.reader).sign -/
abbrev decimal_reader_sign_e74a_ty (R : Type) : Type := Str → Str → (Int → Str → Option R) → Option R
abbrev decimal_reader_sign_e74a_p : List Pat := [.leaf (.ptr 0 0), .leaf (.str)]
abbrev decimal_reader_sign_e74a_q : List HPat := [.cells [.str]]
noncomputable def decimal_reader_sign_e74a_rr {R : Type} (fn : decimal_reader_sign_e74a_ty R) : Pat.dens decimal_reader_sign_e74a_p → HPat.dens decimal_reader_sign_e74a_q → (V → Heap → Option R) → Option R := fun x y k => fn x.2.1 y.1.1 (fun q0 q1 => k (.int .u8 q0) [.cells [.str q1]])
noncomputable def decimal_reader_sign_e74a_E (R : Type) : Env R := fun i => match i with
  | 85 => some (true, (idx_S R))
  | _ => none
theorem decimal_reader_sign_e74a_EOk (R : Type) : EOk Tryd.prog (decimal_reader_sign_e74a_E R) := by
  intro i b sp h
  unfold decimal_reader_sign_e74a_E at h
  split at h
  · cases h; exact ⟨(idx_ok), fun h => nomatch h⟩
  · cases h

noncomputable def decimal_reader_sign_e74a_T (R : Type) : Nat → Option (Hint × LSpec R) := fun i => match i with
  | _ => none

noncomputable def decimal_reader_sign_e74a_X {R : Type} (x1 : Str) (x2 : Str) (k0 : Int → Str → Option R) : Option R :=
  bif (x2 == ([] : Str)) then (k0 0 x2) else (chk (decide ((0 : Int) < x2.length)) (bif (decide ((idxByte x1 ((x2.getD 0 0).toNat : Int)) < (0 : Int))) then (k0 0 x2) else (chk (decide ((0 : Int) < x2.length)) (chk (decide ((0 : Int) ≤ (x2.length : Int)) && decide ((x2.length : Int) ≤ x2.length)) (chk (decide ((1 : Int) ≤ (x2.length : Int))) (k0 ((x2.getD 0 0).toNat : Int) ((x2.drop 1).take ((x2.length : Int).toNat - 1))))))))
noncomputable def decimal_reader_sign_e74a {R : Type} : decimal_reader_sign_e74a_ty R := fun x1 x2 k0 => decimal_reader_sign_e74a_X x1 x2 k0
theorem decimal_reader_sign_e74a_ok {R : Type} (x1 : Str) (x2 : Str) (k : V → Heap → Option R) : funK tt (decimal_reader_sign_e74a_E R) (decimal_reader_sign_e74a_T R) false Tryd.f58 (codeOf Tryd.f58) [.ptr 0 0, .str x1] [.cells [.str x2]] k =
    decimal_reader_sign_e74a_X x1 x2 (fun q0 q1 => k (.int .u8 q0) [.cells [.str q1]]) := by kernel_rfl
theorem decimal_reader_sign_e74a_loops (R : Type) : ∀ a ∈ loopsOf (codeOf Tryd.f58), LoopOk tt (decimal_reader_sign_e74a_E R) (decimal_reader_sign_e74a_T R) 1 a := by
  refine loops_ok 0 (by kernel_rfl) fun i hi => ?_
  omega
theorem decimal_reader_sign_e74a_S_ok (R : Type) (other : Yard.Spec R) (ho : Yard.Spec.Ok Tryd.prog 58 other) : Yard.Spec.Ok Tryd.prog 58 (specBy decimal_reader_sign_e74a_p decimal_reader_sign_e74a_q (decimal_reader_sign_e74a_rr decimal_reader_sign_e74a) other) :=
  specBy_ok ho (funK_sound TT mixed (decimal_reader_sign_e74a_EOk R) (keep := false) rfl rfl rfl rfl 1 (decimal_reader_sign_e74a_loops R)) fun (x : Pat.dens decimal_reader_sign_e74a_p) (y : HPat.dens decimal_reader_sign_e74a_q) k => decimal_reader_sign_e74a_ok x.2.1 y.1.1 k

/-! ### (*humpyard/decimal.reader).digits -/
abbrev decimal_reader_digits_abbd_ty (R : Type) : Type := Str → (Str → Str → Option R) → Option R
abbrev decimal_reader_digits_abbd_p : List Pat := [.leaf (.ptr 0 0)]
abbrev decimal_reader_digits_abbd_q : List HPat := [.cells [.str]]
noncomputable def decimal_reader_digits_abbd_rr {R : Type} (fn : decimal_reader_digits_abbd_ty R) : Pat.dens decimal_reader_digits_abbd_p → HPat.dens decimal_reader_digits_abbd_q → (V → Heap → Option R) → Option R := fun x y k => fn y.1.1 (fun q0 q1 => k (.str q0) [.cells [.str q1]])
noncomputable def decimal_reader_digits_abbd_E (R : Type) : Env R := fun i => match i with
  | 61 => some (true, (trimL_S R))
  | _ => none
theorem decimal_reader_digits_abbd_EOk (R : Type) : EOk Tryd.prog (decimal_reader_digits_abbd_E R) := by
  intro i b sp h
  unfold decimal_reader_digits_abbd_E at h
  split at h
  · cases h; exact ⟨(trimL_ok), fun h => nomatch h⟩
  · cases h

noncomputable def decimal_reader_digits_abbd_T (R : Type) : Nat → Option (Hint × LSpec R) := fun i => match i with
  | _ => none

noncomputable def decimal_reader_digits_abbd_X {R : Type} (x1 : Str) (k0 : Str → Str → Option R) : Option R :=
  chk (isAsc ([48, 49, 50, 51, 52, 53, 54, 55, 56, 57] : Str) && decide (([48, 49, 50, 51, 52, 53, 54, 55, 56, 57] : Str).length < 4294967281)) (chk (decide ((0 : Int) ≤ (IntKind.i64.wrap ((x1.length : Int) - ((trimL x1 ([48, 49, 50, 51, 52, 53, 54, 55, 56, 57] : Str)).length : Int)))) && decide ((IntKind.i64.wrap ((x1.length : Int) - ((trimL x1 ([48, 49, 50, 51, 52, 53, 54, 55, 56, 57] : Str)).length : Int))) ≤ x1.length)) (chk (decide ((0 : Int) ≤ (IntKind.i64.wrap ((x1.length : Int) - ((trimL x1 ([48, 49, 50, 51, 52, 53, 54, 55, 56, 57] : Str)).length : Int))))) (k0 ((x1.drop 0).take ((IntKind.i64.wrap ((x1.length : Int) - ((trimL x1 ([48, 49, 50, 51, 52, 53, 54, 55, 56, 57] : Str)).length : Int))).toNat - 0)) (trimL x1 ([48, 49, 50, 51, 52, 53, 54, 55, 56, 57] : Str)))))
noncomputable def decimal_reader_digits_abbd {R : Type} : decimal_reader_digits_abbd_ty R := fun x1 k0 => decimal_reader_digits_abbd_X x1 k0
theorem decimal_reader_digits_abbd_ok {R : Type} (x1 : Str) (k : V → Heap → Option R) : funK tt (decimal_reader_digits_abbd_E R) (decimal_reader_digits_abbd_T R) false Tryd.f59 (codeOf Tryd.f59) [.ptr 0 0] [.cells [.str x1]] k =
    decimal_reader_digits_abbd_X x1 (fun q0 q1 => k (.str q0) [.cells [.str q1]]) := by kernel_rfl
theorem decimal_reader_digits_abbd_loops (R : Type) : ∀ a ∈ loopsOf (codeOf Tryd.f59), LoopOk tt (decimal_reader_digits_abbd_E R) (decimal_reader_digits_abbd_T R) 1 a := by
  refine loops_ok 0 (by kernel_rfl) fun i hi => ?_
  omega
theorem decimal_reader_digits_abbd_S_ok (R : Type) (other : Yard.Spec R) (ho : Yard.Spec.Ok Tryd.prog 59 other) : Yard.Spec.Ok Tryd.prog 59 (specBy decimal_reader_digits_abbd_p decimal_reader_digits_abbd_q (decimal_reader_digits_abbd_rr decimal_reader_digits_abbd) other) :=
  specBy_ok ho (funK_sound TT mixed (decimal_reader_digits_abbd_EOk R) (keep := false) rfl rfl rfl rfl 1 (decimal_reader_digits_abbd_loops R)) fun (x : Pat.dens decimal_reader_digits_abbd_p) (y : HPat.dens decimal_reader_digits_abbd_q) k => decimal_reader_digits_abbd_ok y.1.1 k

/-! ### (*humpyard/decimal.reader).exponent -/
abbrev decimal_reader_exponent_abbd_ty (R : Type) : Type := Str → (Int → Bool → Str → Option R) → Option R
abbrev decimal_reader_exponent_abbd_p : List Pat := [.leaf (.ptr 0 0)]
abbrev decimal_reader_exponent_abbd_q : List HPat := [.cells [.str]]
noncomputable def decimal_reader_exponent_abbd_rr {R : Type} (fn : decimal_reader_exponent_abbd_ty R) : Pat.dens decimal_reader_exponent_abbd_p → HPat.dens decimal_reader_exponent_abbd_q → (V → Heap → Option R) → Option R := fun x y k => fn y.1.1 (fun q0 q1 q2 => k (.tuple [.int .i64 q0, .bool q1]) [.cells [.str q2]])
noncomputable def decimal_reader_exponent_abbd_E (R : Type) (decimal_reader_sign_e74a : decimal_reader_sign_e74a_ty R) (decimal_reader_digits_abbd : decimal_reader_digits_abbd_ty R) : Env R := fun i => match i with
  | 58 => some (false, (specBy decimal_reader_sign_e74a_p decimal_reader_sign_e74a_q (decimal_reader_sign_e74a_rr decimal_reader_sign_e74a) specNo))
  | 59 => some (false, (specBy decimal_reader_digits_abbd_p decimal_reader_digits_abbd_q (decimal_reader_digits_abbd_rr decimal_reader_digits_abbd) specNo))
  | 63 => some (true, (atoi_S R))
  | _ => none
theorem decimal_reader_exponent_abbd_EOk (R : Type) : EOk Tryd.prog (decimal_reader_exponent_abbd_E R decimal_reader_sign_e74a decimal_reader_digits_abbd) := by
  intro i b sp h
  unfold decimal_reader_exponent_abbd_E at h
  split at h
  · cases h; exact ⟨(decimal_reader_sign_e74a_S_ok R _ (specNo_ok _)), fun _ h => nomatch h⟩
  · cases h; exact ⟨(decimal_reader_digits_abbd_S_ok R _ (specNo_ok _)), fun _ h => nomatch h⟩
  · cases h; exact ⟨(atoi_ok), fun h => nomatch h⟩
  · cases h

noncomputable def decimal_reader_exponent_abbd_T (R : Type) : Nat → Option (Hint × LSpec R) := fun i => match i with
  | _ => none

noncomputable def decimal_reader_exponent_abbd_X {R : Type} (decimal_reader_sign_e74a : decimal_reader_sign_e74a_ty R) (decimal_reader_digits_abbd : decimal_reader_digits_abbd_ty R) (x1 : Str) (k0 : Int → Bool → Str → Option R) : Option R :=
  decimal_reader_sign_e74a ([43, 45] : Str) x1 (fun y2 y3 => decimal_reader_digits_abbd y3 (fun y4 y5 => chk (decide (y4.length ≤ 281474976710656)) (bif atoiOk y4 then (bif (decide ((atoiVal y4) > (1000000 : Int))) then (bif (y2 == 45) then (k0 (-1000000) (!(y4 == ([] : Str))) y5) else (k0 1000000 (!(y4 == ([] : Str))) y5)) else (bif (y2 == 45) then (k0 (IntKind.i64.wrap (0 - (atoiVal y4))) (!(y4 == ([] : Str))) y5) else (k0 (atoiVal y4) (!(y4 == ([] : Str))) y5))) else (bif (!(y4 == ([] : Str))) then (bif (y2 == 45) then (k0 (-1000000) (!(y4 == ([] : Str))) y5) else (k0 1000000 (!(y4 == ([] : Str))) y5)) else (bif (decide ((atoiVal y4) > (1000000 : Int))) then (bif (y2 == 45) then (k0 (-1000000) (!(y4 == ([] : Str))) y5) else (k0 1000000 (!(y4 == ([] : Str))) y5)) else (bif (y2 == 45) then (k0 (IntKind.i64.wrap (0 - (atoiVal y4))) (!(y4 == ([] : Str))) y5) else (k0 (atoiVal y4) (!(y4 == ([] : Str))) y5)))))))
noncomputable def decimal_reader_exponent_abbd {R : Type} : decimal_reader_exponent_abbd_ty R := fun x1 k0 => decimal_reader_exponent_abbd_X decimal_reader_sign_e74a decimal_reader_digits_abbd x1 k0
theorem decimal_reader_exponent_abbd_ok {R : Type} (decimal_reader_sign_e74a : decimal_reader_sign_e74a_ty R) (decimal_reader_digits_abbd : decimal_reader_digits_abbd_ty R) (x1 : Str) (k : V → Heap → Option R) : funK tt (decimal_reader_exponent_abbd_E R decimal_reader_sign_e74a decimal_reader_digits_abbd) (decimal_reader_exponent_abbd_T R) false Tryd.f60 (codeOf Tryd.f60) [.ptr 0 0] [.cells [.str x1]] k =
    decimal_reader_exponent_abbd_X decimal_reader_sign_e74a decimal_reader_digits_abbd x1 (fun q0 q1 q2 => k (.tuple [.int .i64 q0, .bool q1]) [.cells [.str q2]]) := by kernel_rfl
theorem decimal_reader_exponent_abbd_loops (R : Type) : ∀ a ∈ loopsOf (codeOf Tryd.f60), LoopOk tt (decimal_reader_exponent_abbd_E R decimal_reader_sign_e74a decimal_reader_digits_abbd) (decimal_reader_exponent_abbd_T R) 1 a := by
  refine loops_ok 0 (by kernel_rfl) fun i hi => ?_
  omega
theorem decimal_reader_exponent_abbd_S_ok (R : Type) (other : Yard.Spec R) (ho : Yard.Spec.Ok Tryd.prog 60 other) : Yard.Spec.Ok Tryd.prog 60 (specBy decimal_reader_exponent_abbd_p decimal_reader_exponent_abbd_q (decimal_reader_exponent_abbd_rr decimal_reader_exponent_abbd) other) :=
  specBy_ok ho (funK_sound TT mixed (decimal_reader_exponent_abbd_EOk R) (keep := false) rfl rfl rfl rfl 1 (decimal_reader_exponent_abbd_loops R)) fun (x : Pat.dens decimal_reader_exponent_abbd_p) (y : HPat.dens decimal_reader_exponent_abbd_q) k => decimal_reader_exponent_abbd_ok decimal_reader_sign_e74a decimal_reader_digits_abbd y.1.1 k

/-! ### humpyard/decimal.within[int] -/
abbrev decimal_within_int_ty (R : Type) : Type := Int → Int → Int → (Bool → Option R) → Option R
abbrev decimal_within_int_p : List Pat := [.leaf (.int .i64), .leaf (.int .i64), .leaf (.int .i64)]
abbrev decimal_within_int_q : List HPat := []
noncomputable def decimal_within_int_rr {R : Type} (fn : decimal_within_int_ty R) : Pat.dens decimal_within_int_p → HPat.dens decimal_within_int_q → (V → Heap → Option R) → Option R := fun x y k => fn x.1 x.2.1 x.2.2.1 (fun q0 => k (.bool q0) [])
noncomputable def decimal_within_int_E (R : Type) : Env R := fun i => match i with
  | _ => none
theorem decimal_within_int_EOk (R : Type) : EOk Tryd.prog (decimal_within_int_E R) := by
  intro i b sp h
  unfold decimal_within_int_E at h
  split at h
  · cases h

noncomputable def decimal_within_int_T (R : Type) : Nat → Option (Hint × LSpec R) := fun i => match i with
  | _ => none

noncomputable def decimal_within_int_X {R : Type} (x1 : Int) (x2 : Int) (x3 : Int) (k0 : Bool → Option R) : Option R :=
  bif (decide (x1 ≤ x2)) then (k0 (decide (x2 ≤ x3))) else (k0 false)
noncomputable def decimal_within_int {R : Type} : decimal_within_int_ty R := fun x1 x2 x3 k0 => decimal_within_int_X x1 x2 x3 k0
theorem decimal_within_int_ok {R : Type} (x1 : Int) (x2 : Int) (x3 : Int) (k : V → Heap → Option R) : funK tt (decimal_within_int_E R) (decimal_within_int_T R) false Tryd.f64 (codeOf Tryd.f64) [.int .i64 x1, .int .i64 x2, .int .i64 x3] [] k =
    decimal_within_int_X x1 x2 x3 (fun q0 => k (.bool q0) []) := by kernel_rfl
theorem decimal_within_int_loops (R : Type) : ∀ a ∈ loopsOf (codeOf Tryd.f64), LoopOk tt (decimal_within_int_E R) (decimal_within_int_T R) 0 a := by
  refine loops_ok 0 (by kernel_rfl) fun i hi => ?_
  omega
theorem decimal_within_int_S_ok (R : Type) (other : Yard.Spec R) (ho : Yard.Spec.Ok Tryd.prog 64 other) : Yard.Spec.Ok Tryd.prog 64 (specBy decimal_within_int_p decimal_within_int_q (decimal_within_int_rr decimal_within_int) other) :=
  specBy_ok ho (funK_sound TT mixed (decimal_within_int_EOk R) (keep := false) rfl rfl rfl rfl 0 (decimal_within_int_loops R)) fun (x : Pat.dens decimal_within_int_p) (y : HPat.dens decimal_within_int_q) k => decimal_within_int_ok x.1 x.2.1 x.2.2.1 k

/-! ### humpyard/decimal.Make -/
abbrev decimal_Make_ty (R : Type) : Type := Int → Int → (Dcm → Bool → Option R) → Option R
abbrev decimal_Make_p : List Pat := [.leaf (.int .i64), .leaf (.int .i64)]
abbrev decimal_Make_q : List HPat := []
noncomputable def decimal_Make_rr {R : Type} (fn : decimal_Make_ty R) : Pat.dens decimal_Make_p → HPat.dens decimal_Make_q → (V → Heap → Option R) → Option R := fun x y k => fn x.1 x.2.1 (fun q0 q1 => k (.tuple [.agg [.int .i64 q0.mant, .int .i64 q0.exp], .bool q1]) [])
abbrev decimal_Make_4_0_ty (R : Type) : Type := Nat → Int → Int → Dcm → (Int → Int → Dcm → Option R) → Option R
noncomputable def decimal_Make_E (R : Type) (decimal_within_int : decimal_within_int_ty R) : Env R := fun i => match i with
  | 64 => some (true, (specBy decimal_within_int_p decimal_within_int_q (decimal_within_int_rr decimal_within_int) specNo))
  | _ => none
theorem decimal_Make_EOk (R : Type) : EOk Tryd.prog (decimal_Make_E R decimal_within_int) := by
  intro i b sp h
  unfold decimal_Make_E at h
  split at h
  · cases h; exact ⟨(decimal_within_int_S_ok R _ (specNo_ok _)), fun h => nomatch h⟩
  · cases h

noncomputable def decimal_Make_4_0_B {R : Type} (rec' : Int → Int → Dcm → Option R) (x3 : Int) (x4 : Int) (x5 : Dcm) (e0 : Int → Int → Dcm → Option R) : Option R :=
  bif ((Int.tmod x3 10) == 0) then (rec' (IntKind.i64.wrap (Int.tdiv x3 10)) (IntKind.i64.wrap (x4 + 1)) x5) else (e0 x3 x4 x5)
noncomputable def decimal_Make_4_0_L {R : Type} : decimal_Make_4_0_ty R
  | 0, _, _, _, _ => none
  | n + 1, x0', x1', x2', e0 => decimal_Make_4_0_B (fun x0' x1' x2' => decimal_Make_4_0_L n x0' x1' x2' e0) x0' x1' x2' e0
noncomputable def decimal_Make_4_0_h : Hint := { live := [0, 1, 4], own := [], rows := [], cells := [], drop := [], out := [0, 1, 4, 5] }
abbrev decimal_Make_4_0_D : Type := Int × Int × Dcm
noncomputable def decimal_Make_4_0_enc : decimal_Make_4_0_D → St := fun d => ⟨[.int .i64 d.1, .int .i64 d.2.1, .undef, .undef, .ptr 0 0, .undef, .undef, .undef, .undef, .undef, .undef, .undef, .undef, .undef, .undef, .undef, .undef, .undef, .undef, .undef, .undef, .undef, .undef, .undef, .undef, .undef, .undef, .undef, .undef, .undef], [.cells [.int .i64 d.2.2.mant, .int .i64 d.2.2.exp]]⟩
noncomputable def decimal_Make_4_0_x0 {R : Type} (K : Ex → St → Option R) (q0 : Int) (q1 : Int) (q2 : Dcm) : Option R := K (.exit 0) ⟨[.int .i64 q0, .int .i64 q1, .undef, .undef, .ptr 0 0, .undef, .undef, .undef, .undef, .undef, .undef, .undef, .undef, .undef, .undef, .undef, .undef, .undef, .undef, .undef, .undef, .undef, .undef, .undef, .undef, .undef, .undef, .undef, .undef, .undef], [.cells [.int .i64 q2.mant, .int .i64 q2.exp]]⟩
noncomputable def decimal_Make_4_0_s {R : Type} (K : Ex → St → Option R) (rc : decimal_Make_4_0_D → Option R) (d : decimal_Make_4_0_D) : Option R := decimal_Make_4_0_B (fun z0 z1 z2 => rc (z0, z1, z2)) d.1 d.2.1 d.2.2 (decimal_Make_4_0_x0 K)
noncomputable def decimal_Make_4_0_A {R : Type} (K : Ex → St → Option R) (n : Nat) (d : decimal_Make_4_0_D) : Option R := decimal_Make_4_0_L n d.1 d.2.1 d.2.2 (decimal_Make_4_0_x0 K)
abbrev decimal_Make_4_0_p : List Pat := [.leaf (.int .i64), .leaf (.int .i64), .leaf (.undef), .leaf (.undef), .leaf (.ptr 0 0), .leaf (.undef), .leaf (.undef), .leaf (.undef), .leaf (.undef), .leaf (.undef), .leaf (.undef), .leaf (.undef), .leaf (.undef), .leaf (.undef), .leaf (.undef), .leaf (.undef), .leaf (.undef), .leaf (.undef), .leaf (.undef), .leaf (.undef), .leaf (.undef), .leaf (.undef), .leaf (.undef), .leaf (.undef), .leaf (.undef), .leaf (.undef), .leaf (.undef), .leaf (.undef), .leaf (.undef), .leaf (.undef)]
abbrev decimal_Make_4_0_q : List HPat := [.cells [.int .i64, .int .i64]]
noncomputable def decimal_Make_4_0_f (x : Pat.dens decimal_Make_4_0_p) (y : HPat.dens decimal_Make_4_0_q) : Nat := (Int.natAbs x.1 + Int.natAbs x.2.1 + Dcm.fu (⟨y.1.1, y.1.2.1⟩ : Dcm) + 64)
noncomputable def decimal_Make_4_0_d (x : Pat.dens decimal_Make_4_0_p) (y : HPat.dens decimal_Make_4_0_q) : decimal_Make_4_0_D := (x.1, x.2.1, (⟨y.1.1, y.1.2.1⟩ : Dcm))
noncomputable def decimal_Make_4_0_rr {R : Type} (L : decimal_Make_4_0_ty R) : Pat.dens decimal_Make_4_0_p → HPat.dens decimal_Make_4_0_q → (Ex → St → Option R) → Option R := fun x y K => L (decimal_Make_4_0_f x y) x.1 x.2.1 (⟨y.1.1, y.1.2.1⟩ : Dcm) (decimal_Make_4_0_x0 K)
noncomputable def decimal_Make_T (R : Type) (decimal_Make_4_0_L : decimal_Make_4_0_ty R) : Nat → Option (Hint × LSpec R) := fun i => match i with
  | 4 => some (decimal_Make_4_0_h, (loopBy decimal_Make_4_0_p decimal_Make_4_0_q (decimal_Make_4_0_rr decimal_Make_4_0_L) loopNo))
  | _ => none

theorem decimal_Make_4_0_B_ok {R : Type} (decimal_within_int : decimal_within_int_ty R) (decimal_Make_4_0_L : decimal_Make_4_0_ty R) (K : Ex → St → Option R) (rc : St → Option R) (d : decimal_Make_4_0_D) : roundOf tt (decimal_Make_E R decimal_within_int) (decimal_Make_T R decimal_Make_4_0_L) 0 ((loopsOf (codeOf Tryd.f32)).getD 0 .skip) decimal_Make_4_0_h (decimal_Make_4_0_enc d) rc K = decimal_Make_4_0_s K (fun d => rc (decimal_Make_4_0_enc d)) d := by kernel_rfl
theorem decimal_Make_4_0_A_succ {R : Type} (K : Ex → St → Option R) (n : Nat) (d : decimal_Make_4_0_D) : decimal_Make_4_0_A K (n + 1) d = decimal_Make_4_0_s K (decimal_Make_4_0_A K n) d := by kernel_rfl
theorem decimal_Make_4_0_A_zero {R : Type} (K : Ex → St → Option R) (d : decimal_Make_4_0_D) : decimal_Make_4_0_A K 0 d = none := by kernel_rfl
theorem decimal_Make_4_0_e_ok (x : Pat.dens decimal_Make_4_0_p) (y : HPat.dens decimal_Make_4_0_q) : (⟨Pat.encL decimal_Make_4_0_p x, HPat.encL decimal_Make_4_0_q y⟩ : St) = decimal_Make_4_0_enc (decimal_Make_4_0_d x y) := by kernel_rfl
theorem decimal_Make_4_0_r_ok {R : Type} (x : Pat.dens decimal_Make_4_0_p) (y : HPat.dens decimal_Make_4_0_q) (K : Ex → St → Option R) : decimal_Make_4_0_rr (decimal_Make_4_0_L) x y K = decimal_Make_4_0_A K (decimal_Make_4_0_f x y) (decimal_Make_4_0_d x y) := by kernel_rfl
theorem decimal_Make_4_0_ok {R : Type} (other : LSpec R) (ho : LsOk tt (decimal_Make_E R decimal_within_int) (decimal_Make_T R decimal_Make_4_0_L) 0 ((loopsOf (codeOf Tryd.f32)).getD 0 .skip) decimal_Make_4_0_h other) : LsOk tt (decimal_Make_E R decimal_within_int) (decimal_Make_T R decimal_Make_4_0_L) 0 ((loopsOf (codeOf Tryd.f32)).getD 0 .skip) decimal_Make_4_0_h (loopBy decimal_Make_4_0_p decimal_Make_4_0_q (decimal_Make_4_0_rr (decimal_Make_4_0_L)) other) :=
  loopBy_tie (A := decimal_Make_4_0_A) ho (loop_tie decimal_Make_4_0_enc (decimal_Make_4_0_s) (decimal_Make_4_0_A) (decimal_Make_4_0_A_zero) (decimal_Make_4_0_B_ok decimal_within_int decimal_Make_4_0_L) (decimal_Make_4_0_A_succ)) decimal_Make_4_0_f decimal_Make_4_0_d decimal_Make_4_0_e_ok (decimal_Make_4_0_r_ok)

noncomputable def decimal_Make_X {R : Type} (decimal_within_int : decimal_within_int_ty R) (decimal_Make_4_0_L : decimal_Make_4_0_ty R) (x1 : Int) (x2 : Int) (k0 : Dcm → Bool → Option R) : Option R :=
  bif (x1 == 0) then (k0 (⟨0, 0⟩ : Dcm) true) else (decimal_Make_4_0_L (Int.natAbs x1 + Int.natAbs (min x2 1000000) + Dcm.fu (⟨0, 0⟩ : Dcm) + 64) x1 (min x2 1000000) (⟨0, 0⟩ : Dcm) (fun y6 y7 y8 => decimal_within_int (-1000000000000000) y6 1000000000000000 (fun y9 => bif (!y9) then (k0 (⟨0, 0⟩ : Dcm) false) else (decimal_within_int (-9) y7 9 (fun y10 => bif (!y10) then (k0 (⟨0, 0⟩ : Dcm) false) else (k0 (⟨y6, y7⟩ : Dcm) true))))))
noncomputable def decimal_Make {R : Type} : decimal_Make_ty R := fun x1 x2 k0 => decimal_Make_X decimal_within_int decimal_Make_4_0_L x1 x2 k0
theorem decimal_Make_ok {R : Type} (decimal_within_int : decimal_within_int_ty R) (decimal_Make_4_0_L : decimal_Make_4_0_ty R) (x1 : Int) (x2 : Int) (k : V → Heap → Option R) : funK tt (decimal_Make_E R decimal_within_int) (decimal_Make_T R decimal_Make_4_0_L) false Tryd.f32 (codeOf Tryd.f32) [.int .i64 x1, .int .i64 x2] [] k =
    decimal_Make_X decimal_within_int decimal_Make_4_0_L x1 x2 (fun q0 q1 => k (.tuple [.agg [.int .i64 q0.mant, .int .i64 q0.exp], .bool q1]) []) := by kernel_rfl
theorem decimal_Make_loops (R : Type) : ∀ a ∈ loopsOf (codeOf Tryd.f32), LoopOk tt (decimal_Make_E R decimal_within_int) (decimal_Make_T R decimal_Make_4_0_L) 0 a := by
  refine loops_ok 1 (by kernel_rfl) fun i hi => ?_
  match i, hi with
  | 0, _ => exact loopOk_some (by kernel_rfl) (decimal_Make_4_0_ok _ loopNo_ok)
  | n + 1, hi => omega
theorem decimal_Make_S_ok (R : Type) (other : Yard.Spec R) (ho : Yard.Spec.Ok Tryd.prog 32 other) : Yard.Spec.Ok Tryd.prog 32 (specBy decimal_Make_p decimal_Make_q (decimal_Make_rr decimal_Make) other) :=
  specBy_ok ho (funK_sound TT mixed (decimal_Make_EOk R) (keep := false) rfl rfl rfl rfl 0 (decimal_Make_loops R)) fun (x : Pat.dens decimal_Make_p) (y : HPat.dens decimal_Make_q) k => decimal_Make_ok decimal_within_int decimal_Make_4_0_L x.1 x.2.1 k

/-! ### humpyard/decimal.Parse -/
abbrev decimal_Parse_ty (R : Type) : Type := Str → (Dcm → Bool → Option R) → Option R
abbrev decimal_Parse_p : List Pat := [.leaf (.str)]
abbrev decimal_Parse_q : List HPat := []
noncomputable def decimal_Parse_rr {R : Type} (fn : decimal_Parse_ty R) : Pat.dens decimal_Parse_p → HPat.dens decimal_Parse_q → (V → Heap → Option R) → Option R := fun x y k => fn x.1 (fun q0 q1 => k (.tuple [.agg [.int .i64 q0.mant, .int .i64 q0.exp], .bool q1]) [])
noncomputable def decimal_Parse_E (R : Type) (decimal_Make : decimal_Make_ty R) (decimal_reader_sign_e74a : decimal_reader_sign_e74a_ty R) (decimal_reader_digits_abbd : decimal_reader_digits_abbd_ty R) (decimal_reader_exponent_abbd : decimal_reader_exponent_abbd_ty R) : Env R := fun i => match i with
  | 32 => some (true, (specBy decimal_Make_p decimal_Make_q (decimal_Make_rr decimal_Make) specNo))
  | 58 => some (false, (specBy decimal_reader_sign_e74a_p decimal_reader_sign_e74a_q (decimal_reader_sign_e74a_rr decimal_reader_sign_e74a) specNo))
  | 59 => some (false, (specBy decimal_reader_digits_abbd_p decimal_reader_digits_abbd_q (decimal_reader_digits_abbd_rr decimal_reader_digits_abbd) specNo))
  | 60 => some (false, (specBy decimal_reader_exponent_abbd_p decimal_reader_exponent_abbd_q (decimal_reader_exponent_abbd_rr decimal_reader_exponent_abbd) specNo))
  | 61 => some (true, (trimL_S R))
  | 62 => some (true, (trimR_S R))
  | 63 => some (true, (atoi_S R))
  | _ => none
theorem decimal_Parse_EOk (R : Type) : EOk Tryd.prog (decimal_Parse_E R decimal_Make decimal_reader_sign_e74a decimal_reader_digits_abbd decimal_reader_exponent_abbd) := by
  intro i b sp h
  unfold decimal_Parse_E at h
  split at h
  · cases h; exact ⟨(decimal_Make_S_ok R _ (specNo_ok _)), fun h => nomatch h⟩
  · cases h; exact ⟨(decimal_reader_sign_e74a_S_ok R _ (specNo_ok _)), fun _ h => nomatch h⟩
  · cases h; exact ⟨(decimal_reader_digits_abbd_S_ok R _ (specNo_ok _)), fun _ h => nomatch h⟩
  · cases h; exact ⟨(decimal_reader_exponent_abbd_S_ok R _ (specNo_ok _)), fun _ h => nomatch h⟩
  · cases h; exact ⟨(trimL_ok), fun h => nomatch h⟩
  · cases h; exact ⟨(trimR_ok), fun h => nomatch h⟩
  · cases h; exact ⟨(atoi_ok), fun h => nomatch h⟩
  · cases h

noncomputable def decimal_Parse_T (R : Type) : Nat → Option (Hint × LSpec R) := fun i => match i with
  | _ => none

noncomputable def decimal_Parse_X {R : Type} (decimal_Make : decimal_Make_ty R) (decimal_reader_sign_e74a : decimal_reader_sign_e74a_ty R) (decimal_reader_digits_abbd : decimal_reader_digits_abbd_ty R) (decimal_reader_exponent_abbd : decimal_reader_exponent_abbd_ty R) (x1 : Str) (k0 : Dcm → Bool → Option R) : Option R :=
  decimal_reader_sign_e74a ([45] : Str) x1 (fun y2 y3 => decimal_reader_digits_abbd y3 (fun y4 y5 => let j32 := let j31 := fun (z11 : Str) (z12 : Int) (z13 : Str) => let j30 := fun (z19 : Int) (z20 : Str) => chk (isAsc ([48] : Str) && decide (([48] : Str).length < 4294967281)) (chk (isAsc ([48] : Str) && decide (([48] : Str).length < 4294967281)) (bif (!(z20 == ([] : Str))) then (k0 (⟨0, 0⟩ : Dcm) false) else (bif (decide (((trimR (trimL z11 ([48] : Str)) ([48] : Str)).length : Int) > (18 : Int))) then (k0 (⟨0, 0⟩ : Dcm) false) else (let j29 := bif (y2 != 0) then (decimal_Make (IntKind.i64.wrap (0 - (atoiVal (([48] : Str) ++ (trimR (trimL z11 ([48] : Str)) ([48] : Str)))))) (IntKind.i64.wrap (z19 + (IntKind.i64.wrap (((trimL z11 ([48] : Str)).length : Int) - ((trimR (trimL z11 ([48] : Str)) ([48] : Str)).length : Int))))) (fun y25 y26 => k0 y25 y26)) else (decimal_Make (atoiVal (([48] : Str) ++ (trimR (trimL z11 ([48] : Str)) ([48] : Str)))) (IntKind.i64.wrap (z19 + (IntKind.i64.wrap (((trimL z11 ([48] : Str)).length : Int) - ((trimR (trimL z11 ([48] : Str)) ([48] : Str)).length : Int))))) (fun y27 y28 => k0 y27 y28)); chk (decide (1 + (trimR (trimL z11 ([48] : Str)) ([48] : Str)).length ≤ 9223372036854775807)) (chk (decide ((([48] : Str) ++ (trimR (trimL z11 ([48] : Str)) ([48] : Str))).length ≤ 281474976710656)) (bif atoiOk (([48] : Str) ++ (trimR (trimL z11 ([48] : Str)) ([48] : Str))) then (j29) else (j29))))))); decimal_reader_sign_e74a ([101, 69] : Str) z13 (fun y14 y15 => bif (y14 != 0) then (decimal_reader_exponent_abbd y15 (fun y16 y17 y18 => bif (!y17) then (k0 (⟨0, 0⟩ : Dcm) false) else (j30 (IntKind.i64.wrap (z12 + y16)) y18))) else (j30 z12 y15)); decimal_reader_sign_e74a ([46] : Str) y5 (fun y7 y8 => bif (y7 != 0) then (decimal_reader_digits_abbd y8 (fun y9 y10 => bif (y9 == ([] : Str)) then (k0 (⟨0, 0⟩ : Dcm) false) else (chk (decide (y4.length + y9.length ≤ 9223372036854775807)) (j31 (y4 ++ y9) (IntKind.i64.wrap (0 - (y9.length : Int))) y10)))) else (j31 y4 0 y8)); bif (decide ((x1.length : Int) > (400 : Int))) then (k0 (⟨0, 0⟩ : Dcm) false) else (bif (y4 == ([] : Str)) then (k0 (⟨0, 0⟩ : Dcm) false) else (bif (decide ((y4.length : Int) > (1 : Int))) then (chk (decide ((0 : Int) < y4.length)) (bif (((y4.getD 0 0).toNat : Int) == 48) then (k0 (⟨0, 0⟩ : Dcm) false) else (j32))) else (j32)))))
noncomputable def decimal_Parse {R : Type} : decimal_Parse_ty R := fun x1 k0 => decimal_Parse_X decimal_Make decimal_reader_sign_e74a decimal_reader_digits_abbd decimal_reader_exponent_abbd x1 k0
theorem decimal_Parse_ok {R : Type} (decimal_Make : decimal_Make_ty R) (decimal_reader_sign_e74a : decimal_reader_sign_e74a_ty R) (decimal_reader_digits_abbd : decimal_reader_digits_abbd_ty R) (decimal_reader_exponent_abbd : decimal_reader_exponent_abbd_ty R) (x1 : Str) (k : V → Heap → Option R) : funK tt (decimal_Parse_E R decimal_Make decimal_reader_sign_e74a decimal_reader_digits_abbd decimal_reader_exponent_abbd) (decimal_Parse_T R) false Tryd.f29 (codeOf Tryd.f29) [.str x1] [] k =
    decimal_Parse_X decimal_Make decimal_reader_sign_e74a decimal_reader_digits_abbd decimal_reader_exponent_abbd x1 (fun q0 q1 => k (.tuple [.agg [.int .i64 q0.mant, .int .i64 q0.exp], .bool q1]) []) := by kernel_rfl
theorem decimal_Parse_loops (R : Type) : ∀ a ∈ loopsOf (codeOf Tryd.f29), LoopOk tt (decimal_Parse_E R decimal_Make decimal_reader_sign_e74a decimal_reader_digits_abbd decimal_reader_exponent_abbd) (decimal_Parse_T R) 0 a := by
  refine loops_ok 0 (by kernel_rfl) fun i hi => ?_
  omega
theorem decimal_Parse_S_ok (R : Type) (other : Yard.Spec R) (ho : Yard.Spec.Ok Tryd.prog 29 other) : Yard.Spec.Ok Tryd.prog 29 (specBy decimal_Parse_p decimal_Parse_q (decimal_Parse_rr decimal_Parse) other) :=
  specBy_ok ho (funK_sound TT mixed (decimal_Parse_EOk R) (keep := false) rfl rfl rfl rfl 0 (decimal_Parse_loops R)) fun (x : Pat.dens decimal_Parse_p) (y : HPat.dens decimal_Parse_q) k => decimal_Parse_ok decimal_Make decimal_reader_sign_e74a decimal_reader_digits_abbd decimal_reader_exponent_abbd x.1 k

/-! ### humpyard/decimal.Right -/
abbrev decimal_Right_ty (R : Type) : Type := Dcm → (Bool → Option R) → Option R
abbrev decimal_Right_p : List Pat := [.agg [.int .i64, .int .i64]]
abbrev decimal_Right_q : List HPat := []
noncomputable def decimal_Right_rr {R : Type} (fn : decimal_Right_ty R) : Pat.dens decimal_Right_p → HPat.dens decimal_Right_q → (V → Heap → Option R) → Option R := fun x y k => fn (⟨x.1.1, x.1.2.1⟩ : Dcm) (fun q0 => k (.bool q0) [])
noncomputable def decimal_Right_E (R : Type) (decimal_within_int : decimal_within_int_ty R) : Env R := fun i => match i with
  | 64 => some (true, (specBy decimal_within_int_p decimal_within_int_q (decimal_within_int_rr decimal_within_int) specNo))
  | _ => none
theorem decimal_Right_EOk (R : Type) : EOk Tryd.prog (decimal_Right_E R decimal_within_int) := by
  intro i b sp h
  unfold decimal_Right_E at h
  split at h
  · cases h; exact ⟨(decimal_within_int_S_ok R _ (specNo_ok _)), fun h => nomatch h⟩
  · cases h

noncomputable def decimal_Right_T (R : Type) : Nat → Option (Hint × LSpec R) := fun i => match i with
  | _ => none

noncomputable def decimal_Right_X {R : Type} (decimal_within_int : decimal_within_int_ty R) (x1 : Dcm) (k0 : Bool → Option R) : Option R :=
  bif (x1.mant == 0) then (k0 (x1.exp == 0)) else (bif ((Int.tmod x1.mant 10) != 0) then (decimal_within_int (-1000000000000000) x1.mant 1000000000000000 (fun y2 => bif y2 then (decimal_within_int (-9) x1.exp 9 (fun y3 => k0 y3)) else (k0 false))) else (k0 false))
noncomputable def decimal_Right {R : Type} : decimal_Right_ty R := fun x1 k0 => decimal_Right_X decimal_within_int x1 k0
theorem decimal_Right_ok {R : Type} (decimal_within_int : decimal_within_int_ty R) (x1 : Dcm) (k : V → Heap → Option R) : funK tt (decimal_Right_E R decimal_within_int) (decimal_Right_T R) false Tryd.f30 (codeOf Tryd.f30) [.agg [.int .i64 x1.mant, .int .i64 x1.exp]] [] k =
    decimal_Right_X decimal_within_int x1 (fun q0 => k (.bool q0) []) := by kernel_rfl
theorem decimal_Right_loops (R : Type) : ∀ a ∈ loopsOf (codeOf Tryd.f30), LoopOk tt (decimal_Right_E R decimal_within_int) (decimal_Right_T R) 0 a := by
  refine loops_ok 0 (by kernel_rfl) fun i hi => ?_
  omega
theorem decimal_Right_S_ok (R : Type) (other : Yard.Spec R) (ho : Yard.Spec.Ok Tryd.prog 30 other) : Yard.Spec.Ok Tryd.prog 30 (specBy decimal_Right_p decimal_Right_q (decimal_Right_rr decimal_Right) other) :=
  specBy_ok ho (funK_sound TT mixed (decimal_Right_EOk R) (keep := false) rfl rfl rfl rfl 0 (decimal_Right_loops R)) fun (x : Pat.dens decimal_Right_p) (y : HPat.dens decimal_Right_q) k => decimal_Right_ok decimal_within_int (⟨x.1.1, x.1.2.1⟩ : Dcm) k

end Go.Proofs.YtifgegmnngfckaaDoor

/-
  Functions of the program as pure Lean functions, and the ties; printed by wip/tools/emit.py.
-/
set_option maxRecDepth 100000
set_option linter.unusedVariables false
namespace Go.Proofs.YtifgegmnngfckaaDoor
open Go Go.Yard

/-! ### humpyard/decimal.shifted -/
abbrev decimal_shifted_ty (R : Type) : Type := Dcm → Int → (Int → Bool → Option R) → Option R
abbrev decimal_shifted_p : List Pat := [.agg [.int .i64, .int .i64], .leaf (.int .i64)]
abbrev decimal_shifted_q : List HPat := []
noncomputable def decimal_shifted_rr {R : Type} (fn : decimal_shifted_ty R) : Pat.dens decimal_shifted_p → HPat.dens decimal_shifted_q → (V → Heap → Option R) → Option R := fun x y k => fn (⟨x.1.1, x.1.2.1⟩ : Dcm) x.2.1 (fun q0 q1 => k (.tuple [.int .i64 q0, .bool q1]) [])
abbrev decimal_shifted_3_0_ty (R : Type) : Type := Nat → Int → Int → Int → (Int → Option R) → (Int → Bool → Int → Option R) → Option R
noncomputable def decimal_shifted_E (R : Type) (decimal_within_int : decimal_within_int_ty R) : Env R := fun i => match i with
  | 64 => some (true, (specBy decimal_within_int_p decimal_within_int_q (decimal_within_int_rr decimal_within_int) specNo))
  | _ => none
theorem decimal_shifted_EOk (R : Type) : EOk Tryd.prog (decimal_shifted_E R decimal_within_int) := by
  intro i b sp h
  unfold decimal_shifted_E at h
  split at h
  · cases h; exact ⟨(decimal_within_int_S_ok R _ (specNo_ok _)), fun h => nomatch h⟩
  · cases h

noncomputable def decimal_shifted_3_0_B {R : Type} (decimal_within_int : decimal_within_int_ty R) (rec' : Int → Int → Int → Option R) (x3 : Int) (x4 : Int) (x5 : Int) (e0 : Int → Option R) (e1 : Int → Bool → Int → Option R) : Option R :=
  bif (decide (x5 < x4)) then (decimal_within_int (-100000000000000000) x3 100000000000000000 (fun y6 => bif (!y6) then (e1 0 false x3) else (rec' (IntKind.i64.wrap (x3 * 10)) x4 (IntKind.i64.wrap (x5 + 1))))) else (e0 x3)
noncomputable def decimal_shifted_3_0_L {R : Type} : decimal_shifted_3_0_ty R
  | 0, _, _, _, _, _ => none
  | n + 1, x0', x1', x2', e0, e1 => decimal_shifted_3_0_B decimal_within_int (fun x0' x1' x2' => decimal_shifted_3_0_L n x0' x1' x2' e0 e1) x0' x1' x2' e0 e1
noncomputable def decimal_shifted_3_0_h : Hint := { live := [6, 12, 13], own := [], rows := [], cells := [], drop := [], out := [4, 5, 6] }
abbrev decimal_shifted_3_0_D : Type := Int × Int × Int
noncomputable def decimal_shifted_3_0_enc : decimal_shifted_3_0_D → St := fun d => ⟨[.undef, .undef, .undef, .undef, .undef, .undef, .int .i64 d.1, .undef, .undef, .undef, .undef, .undef, .int .i64 d.2.1, .int .i64 d.2.2, .undef, .undef, .undef, .undef, .undef, .undef, .undef, .undef], []⟩
noncomputable def decimal_shifted_3_0_x0 {R : Type} (K : Ex → St → Option R) (q0 : Int) : Option R := K (.exit 0) ⟨[.undef, .undef, .undef, .undef, .undef, .undef, .int .i64 q0, .undef, .undef, .undef, .undef, .undef, .undef, .undef, .undef, .undef, .undef, .undef, .undef, .undef, .undef, .undef], []⟩
noncomputable def decimal_shifted_3_0_x1 {R : Type} (K : Ex → St → Option R) (q0 : Int) (q1 : Bool) (q2 : Int) : Option R := K (.ret) ⟨[.undef, .undef, .undef, .undef, .int .i64 q0, .bool q1, .int .i64 q2, .undef, .undef, .undef, .undef, .undef, .undef, .undef, .undef, .undef, .undef, .undef, .undef, .undef, .undef, .undef], []⟩
noncomputable def decimal_shifted_3_0_s {R : Type} (decimal_within_int : decimal_within_int_ty R) (K : Ex → St → Option R) (rc : decimal_shifted_3_0_D → Option R) (d : decimal_shifted_3_0_D) : Option R := decimal_shifted_3_0_B decimal_within_int (fun z0 z1 z2 => rc (z0, z1, z2)) d.1 d.2.1 d.2.2 (decimal_shifted_3_0_x0 K) (decimal_shifted_3_0_x1 K)
noncomputable def decimal_shifted_3_0_A {R : Type} (K : Ex → St → Option R) (n : Nat) (d : decimal_shifted_3_0_D) : Option R := decimal_shifted_3_0_L n d.1 d.2.1 d.2.2 (decimal_shifted_3_0_x0 K) (decimal_shifted_3_0_x1 K)
abbrev decimal_shifted_3_0_p : List Pat := [.leaf (.undef), .leaf (.undef), .leaf (.undef), .leaf (.undef), .leaf (.undef), .leaf (.undef), .leaf (.int .i64), .leaf (.undef), .leaf (.undef), .leaf (.undef), .leaf (.undef), .leaf (.undef), .leaf (.int .i64), .leaf (.int .i64), .leaf (.undef), .leaf (.undef), .leaf (.undef), .leaf (.undef), .leaf (.undef), .leaf (.undef), .leaf (.undef), .leaf (.undef)]
abbrev decimal_shifted_3_0_q : List HPat := []
noncomputable def decimal_shifted_3_0_f (x : Pat.dens decimal_shifted_3_0_p) (y : HPat.dens decimal_shifted_3_0_q) : Nat := (Int.natAbs x.2.2.2.2.2.2.1 + Int.natAbs x.2.2.2.2.2.2.2.2.2.2.2.2.1 + Int.natAbs x.2.2.2.2.2.2.2.2.2.2.2.2.2.1 + 64)
noncomputable def decimal_shifted_3_0_d (x : Pat.dens decimal_shifted_3_0_p) (y : HPat.dens decimal_shifted_3_0_q) : decimal_shifted_3_0_D := (x.2.2.2.2.2.2.1, x.2.2.2.2.2.2.2.2.2.2.2.2.1, x.2.2.2.2.2.2.2.2.2.2.2.2.2.1)
noncomputable def decimal_shifted_3_0_rr {R : Type} (L : decimal_shifted_3_0_ty R) : Pat.dens decimal_shifted_3_0_p → HPat.dens decimal_shifted_3_0_q → (Ex → St → Option R) → Option R := fun x y K => L (decimal_shifted_3_0_f x y) x.2.2.2.2.2.2.1 x.2.2.2.2.2.2.2.2.2.2.2.2.1 x.2.2.2.2.2.2.2.2.2.2.2.2.2.1 (decimal_shifted_3_0_x0 K) (decimal_shifted_3_0_x1 K)
noncomputable def decimal_shifted_T (R : Type) (decimal_shifted_3_0_L : decimal_shifted_3_0_ty R) : Nat → Option (Hint × LSpec R) := fun i => match i with
  | 3 => some (decimal_shifted_3_0_h, (loopBy decimal_shifted_3_0_p decimal_shifted_3_0_q (decimal_shifted_3_0_rr decimal_shifted_3_0_L) loopNo))
  | _ => none

theorem decimal_shifted_3_0_B_ok {R : Type} (decimal_within_int : decimal_within_int_ty R) (decimal_shifted_3_0_L : decimal_shifted_3_0_ty R) (K : Ex → St → Option R) (rc : St → Option R) (d : decimal_shifted_3_0_D) : roundOf tt (decimal_shifted_E R decimal_within_int) (decimal_shifted_T R decimal_shifted_3_0_L) 0 ((loopsOf (codeOf Tryd.f68)).getD 0 .skip) decimal_shifted_3_0_h (decimal_shifted_3_0_enc d) rc K = decimal_shifted_3_0_s decimal_within_int K (fun d => rc (decimal_shifted_3_0_enc d)) d := by kernel_rfl
theorem decimal_shifted_3_0_A_succ {R : Type} (K : Ex → St → Option R) (n : Nat) (d : decimal_shifted_3_0_D) : decimal_shifted_3_0_A K (n + 1) d = decimal_shifted_3_0_s decimal_within_int K (decimal_shifted_3_0_A K n) d := by kernel_rfl
theorem decimal_shifted_3_0_A_zero {R : Type} (K : Ex → St → Option R) (d : decimal_shifted_3_0_D) : decimal_shifted_3_0_A K 0 d = none := by kernel_rfl
theorem decimal_shifted_3_0_e_ok (x : Pat.dens decimal_shifted_3_0_p) (y : HPat.dens decimal_shifted_3_0_q) : (⟨Pat.encL decimal_shifted_3_0_p x, HPat.encL decimal_shifted_3_0_q y⟩ : St) = decimal_shifted_3_0_enc (decimal_shifted_3_0_d x y) := by kernel_rfl
theorem decimal_shifted_3_0_r_ok {R : Type} (x : Pat.dens decimal_shifted_3_0_p) (y : HPat.dens decimal_shifted_3_0_q) (K : Ex → St → Option R) : decimal_shifted_3_0_rr (decimal_shifted_3_0_L) x y K = decimal_shifted_3_0_A K (decimal_shifted_3_0_f x y) (decimal_shifted_3_0_d x y) := by kernel_rfl
theorem decimal_shifted_3_0_ok {R : Type} (other : LSpec R) (ho : LsOk tt (decimal_shifted_E R decimal_within_int) (decimal_shifted_T R decimal_shifted_3_0_L) 0 ((loopsOf (codeOf Tryd.f68)).getD 0 .skip) decimal_shifted_3_0_h other) : LsOk tt (decimal_shifted_E R decimal_within_int) (decimal_shifted_T R decimal_shifted_3_0_L) 0 ((loopsOf (codeOf Tryd.f68)).getD 0 .skip) decimal_shifted_3_0_h (loopBy decimal_shifted_3_0_p decimal_shifted_3_0_q (decimal_shifted_3_0_rr (decimal_shifted_3_0_L)) other) :=
  loopBy_tie (A := decimal_shifted_3_0_A) ho (loop_tie decimal_shifted_3_0_enc (decimal_shifted_3_0_s decimal_within_int) (decimal_shifted_3_0_A) (decimal_shifted_3_0_A_zero) (decimal_shifted_3_0_B_ok decimal_within_int decimal_shifted_3_0_L) (decimal_shifted_3_0_A_succ)) decimal_shifted_3_0_f decimal_shifted_3_0_d decimal_shifted_3_0_e_ok (decimal_shifted_3_0_r_ok)

noncomputable def decimal_shifted_X {R : Type} (decimal_shifted_3_0_L : decimal_shifted_3_0_ty R) (x1 : Dcm) (x2 : Int) (k0 : Int → Bool → Option R) : Option R :=
  decimal_shifted_3_0_L (Int.natAbs x1.mant + Int.natAbs (IntKind.i64.wrap (x1.exp - x2)) + Int.natAbs 0 + 64) x1.mant (IntKind.i64.wrap (x1.exp - x2)) 0 (fun y7 => k0 y7 true) (fun y8 y9 y10 => k0 y8 y9)
noncomputable def decimal_shifted {R : Type} : decimal_shifted_ty R := fun x1 x2 k0 => decimal_shifted_X decimal_shifted_3_0_L x1 x2 k0
theorem decimal_shifted_ok {R : Type} (decimal_within_int : decimal_within_int_ty R) (decimal_shifted_3_0_L : decimal_shifted_3_0_ty R) (x1 : Dcm) (x2 : Int) (k : V → Heap → Option R) : funK tt (decimal_shifted_E R decimal_within_int) (decimal_shifted_T R decimal_shifted_3_0_L) false Tryd.f68 (codeOf Tryd.f68) [.agg [.int .i64 x1.mant, .int .i64 x1.exp], .int .i64 x2] [] k =
    decimal_shifted_X decimal_shifted_3_0_L x1 x2 (fun q0 q1 => k (.tuple [.int .i64 q0, .bool q1]) []) := by kernel_rfl
theorem decimal_shifted_loops (R : Type) : ∀ a ∈ loopsOf (codeOf Tryd.f68), LoopOk tt (decimal_shifted_E R decimal_within_int) (decimal_shifted_T R decimal_shifted_3_0_L) 0 a := by
  refine loops_ok 1 (by kernel_rfl) fun i hi => ?_
  match i, hi with
  | 0, _ => exact loopOk_some (by kernel_rfl) (decimal_shifted_3_0_ok _ loopNo_ok)
  | n + 1, hi => omega
theorem decimal_shifted_S_ok (R : Type) (other : Yard.Spec R) (ho : Yard.Spec.Ok Tryd.prog 68 other) : Yard.Spec.Ok Tryd.prog 68 (specBy decimal_shifted_p decimal_shifted_q (decimal_shifted_rr decimal_shifted) other) :=
  specBy_ok ho (funK_sound TT mixed (decimal_shifted_EOk R) (keep := false) rfl rfl rfl rfl 0 (decimal_shifted_loops R)) fun (x : Pat.dens decimal_shifted_p) (y : HPat.dens decimal_shifted_q) k => decimal_shifted_ok decimal_within_int decimal_shifted_3_0_L (⟨x.1.1, x.1.2.1⟩ : Dcm) x.2.1 k

/-! ### humpyard/decimal.Int -/
abbrev decimal_Int_ty (R : Type) : Type := Dcm → (Int → Bool → Option R) → Option R
abbrev decimal_Int_p : List Pat := [.agg [.int .i64, .int .i64]]
abbrev decimal_Int_q : List HPat := []
noncomputable def decimal_Int_rr {R : Type} (fn : decimal_Int_ty R) : Pat.dens decimal_Int_p → HPat.dens decimal_Int_q → (V → Heap → Option R) → Option R := fun x y k => fn (⟨x.1.1, x.1.2.1⟩ : Dcm) (fun q0 q1 => k (.tuple [.int .i64 q0, .bool q1]) [])
noncomputable def decimal_Int_E (R : Type) (decimal_Right : decimal_Right_ty R) (decimal_shifted : decimal_shifted_ty R) : Env R := fun i => match i with
  | 30 => some (true, (specBy decimal_Right_p decimal_Right_q (decimal_Right_rr decimal_Right) specNo))
  | 68 => some (true, (specBy decimal_shifted_p decimal_shifted_q (decimal_shifted_rr decimal_shifted) specNo))
  | _ => none
theorem decimal_Int_EOk (R : Type) : EOk Tryd.prog (decimal_Int_E R decimal_Right decimal_shifted) := by
  intro i b sp h
  unfold decimal_Int_E at h
  split at h
  · cases h; exact ⟨(decimal_Right_S_ok R _ (specNo_ok _)), fun h => nomatch h⟩
  · cases h; exact ⟨(decimal_shifted_S_ok R _ (specNo_ok _)), fun h => nomatch h⟩
  · cases h

noncomputable def decimal_Int_T (R : Type) : Nat → Option (Hint × LSpec R) := fun i => match i with
  | _ => none

noncomputable def decimal_Int_X {R : Type} (decimal_Right : decimal_Right_ty R) (decimal_shifted : decimal_shifted_ty R) (x1 : Dcm) (k0 : Int → Bool → Option R) : Option R :=
  decimal_Right x1 (fun y2 => bif (!y2) then (k0 0 false) else (bif (decide (x1.exp < (0 : Int))) then (k0 0 false) else (decimal_shifted x1 0 (fun y4 y5 => k0 y4 y5))))
noncomputable def decimal_Int {R : Type} : decimal_Int_ty R := fun x1 k0 => decimal_Int_X decimal_Right decimal_shifted x1 k0
theorem decimal_Int_ok {R : Type} (decimal_Right : decimal_Right_ty R) (decimal_shifted : decimal_shifted_ty R) (x1 : Dcm) (k : V → Heap → Option R) : funK tt (decimal_Int_E R decimal_Right decimal_shifted) (decimal_Int_T R) false Tryd.f39 (codeOf Tryd.f39) [.agg [.int .i64 x1.mant, .int .i64 x1.exp]] [] k =
    decimal_Int_X decimal_Right decimal_shifted x1 (fun q0 q1 => k (.tuple [.int .i64 q0, .bool q1]) []) := by kernel_rfl
theorem decimal_Int_loops (R : Type) : ∀ a ∈ loopsOf (codeOf Tryd.f39), LoopOk tt (decimal_Int_E R decimal_Right decimal_shifted) (decimal_Int_T R) 0 a := by
  refine loops_ok 0 (by kernel_rfl) fun i hi => ?_
  omega
theorem decimal_Int_S_ok (R : Type) (other : Yard.Spec R) (ho : Yard.Spec.Ok Tryd.prog 39 other) : Yard.Spec.Ok Tryd.prog 39 (specBy decimal_Int_p decimal_Int_q (decimal_Int_rr decimal_Int) other) :=
  specBy_ok ho (funK_sound TT mixed (decimal_Int_EOk R) (keep := false) rfl rfl rfl rfl 0 (decimal_Int_loops R)) fun (x : Pat.dens decimal_Int_p) (y : HPat.dens decimal_Int_q) k => decimal_Int_ok decimal_Right decimal_shifted (⟨x.1.1, x.1.2.1⟩ : Dcm) k

/-! ### (*strings.Builder).WriteString -/
abbrev strings_Builder_WriteString_fb8e_ty (R : Type) : Type := Str → (Int → (List Int) → Option R) → Option R
abbrev strings_Builder_WriteString_fb8e_p : List Pat := [.leaf (.ptr 0 0), .leaf (.str)]
abbrev strings_Builder_WriteString_fb8e_q : List HPat := [.bld (.nilsl)]
noncomputable def strings_Builder_WriteString_fb8e_rr {R : Type} (fn : strings_Builder_WriteString_fb8e_ty R) : Pat.dens strings_Builder_WriteString_fb8e_p → HPat.dens strings_Builder_WriteString_fb8e_q → (V → Heap → Option R) → Option R := fun x y k => fn x.2.1 (fun q0 q1 => k (.tuple [.int .i64 q0, .niliface]) [.bld (.sl (.int .u8) q1 (.own 1)), .tok])
noncomputable def strings_Builder_WriteString_fb8e_E (R : Type) : Env R := fun i => match i with
  | 72 => some (false, (bcc_S R))
  | _ => none
theorem strings_Builder_WriteString_fb8e_EOk (R : Type) : EOk Tryd.prog (strings_Builder_WriteString_fb8e_E R) := by
  intro i b sp h
  unfold strings_Builder_WriteString_fb8e_E at h
  split at h
  · cases h; exact ⟨(bcc_is), fun _ h => nomatch h⟩
  · cases h

noncomputable def strings_Builder_WriteString_fb8e_T (R : Type) : Nat → Option (Hint × LSpec R) := fun i => match i with
  | _ => none

noncomputable def strings_Builder_WriteString_fb8e_X {R : Type} (x1 : Str) (k0 : Int → (List Int) → Option R) : Option R :=
  chk (decide ((0 + (bytesN x1).length) * 1 ≤ 140737488355328)) (k0 (x1.length : Int) (bytesN x1))
noncomputable def strings_Builder_WriteString_fb8e {R : Type} : strings_Builder_WriteString_fb8e_ty R := fun x1 k0 => strings_Builder_WriteString_fb8e_X x1 k0
theorem strings_Builder_WriteString_fb8e_ok {R : Type} (x1 : Str) (k : V → Heap → Option R) : funK tt (strings_Builder_WriteString_fb8e_E R) (strings_Builder_WriteString_fb8e_T R) false Tryd.f47 (codeOf Tryd.f47) [.ptr 0 0, .str x1] [.bld (.nilsl)] k =
    strings_Builder_WriteString_fb8e_X x1 (fun q0 q1 => k (.tuple [.int .i64 q0, .niliface]) [.bld (.sl (.int .u8) q1 (.own 1)), .tok]) := by kernel_rfl
theorem strings_Builder_WriteString_fb8e_loops (R : Type) : ∀ a ∈ loopsOf (codeOf Tryd.f47), LoopOk tt (strings_Builder_WriteString_fb8e_E R) (strings_Builder_WriteString_fb8e_T R) 1 a := by
  refine loops_ok 0 (by kernel_rfl) fun i hi => ?_
  omega
theorem strings_Builder_WriteString_fb8e_S_ok (R : Type) (other : Yard.Spec R) (ho : Yard.Spec.Ok Tryd.prog 47 other) : Yard.Spec.Ok Tryd.prog 47 (specBy strings_Builder_WriteString_fb8e_p strings_Builder_WriteString_fb8e_q (strings_Builder_WriteString_fb8e_rr strings_Builder_WriteString_fb8e) other) :=
  specBy_ok ho (funK_sound TT mixed (strings_Builder_WriteString_fb8e_EOk R) (keep := false) rfl rfl rfl rfl 1 (strings_Builder_WriteString_fb8e_loops R)) fun (x : Pat.dens strings_Builder_WriteString_fb8e_p) (y : HPat.dens strings_Builder_WriteString_fb8e_q) k => strings_Builder_WriteString_fb8e_ok x.2.1 k

/-! ### humpyard/decimal.Print -/
abbrev decimal_Print_ty (R : Type) : Type := Dcm → (Str → Option R) → Option R
abbrev decimal_Print_p : List Pat := [.agg [.int .i64, .int .i64]]
abbrev decimal_Print_q : List HPat := []
noncomputable def decimal_Print_rr {R : Type} (fn : decimal_Print_ty R) : Pat.dens decimal_Print_p → HPat.dens decimal_Print_q → (V → Heap → Option R) → Option R := fun x y k => fn (⟨x.1.1, x.1.2.1⟩ : Dcm) (fun q0 => k (.str q0) [])
noncomputable def decimal_Print_E (R : Type) (decimal_Right : decimal_Right_ty R) (strings_Builder_WriteByte_b66c : strings_Builder_WriteByte_b66c_ty R) (strings_Builder_WriteString_df1e : strings_Builder_WriteString_df1e_ty R) (strings_Builder_WriteString_fb8e : strings_Builder_WriteString_fb8e_ty R) : Env R := fun i => match i with
  | 30 => some (true, (specBy decimal_Right_p decimal_Right_q (decimal_Right_rr decimal_Right) specNo))
  | 45 => some (false, (specBy strings_Builder_WriteByte_b66c_p strings_Builder_WriteByte_b66c_q (strings_Builder_WriteByte_b66c_rr strings_Builder_WriteByte_b66c) specNo))
  | 47 => some (false, (specBy strings_Builder_WriteString_fb8e_p strings_Builder_WriteString_fb8e_q (strings_Builder_WriteString_fb8e_rr strings_Builder_WriteString_fb8e) (specBy strings_Builder_WriteString_df1e_p strings_Builder_WriteString_df1e_q (strings_Builder_WriteString_df1e_rr strings_Builder_WriteString_df1e) specNo)))
  | 49 => some (false, (bstr_S R))
  | 56 => some (true, (itoa_S R))
  | 57 => some (true, (rep_S R))
  | _ => none
theorem decimal_Print_EOk (R : Type) : EOk Tryd.prog (decimal_Print_E R decimal_Right strings_Builder_WriteByte_b66c strings_Builder_WriteString_df1e strings_Builder_WriteString_fb8e) := by
  intro i b sp h
  unfold decimal_Print_E at h
  split at h
  · cases h; exact ⟨(decimal_Right_S_ok R _ (specNo_ok _)), fun h => nomatch h⟩
  · cases h; exact ⟨(strings_Builder_WriteByte_b66c_S_ok R _ (specNo_ok _)), fun _ h => nomatch h⟩
  · cases h; exact ⟨(strings_Builder_WriteString_fb8e_S_ok R _ (strings_Builder_WriteString_df1e_S_ok R _ (specNo_ok _))), fun _ h => nomatch h⟩
  · cases h; exact ⟨(bstr_is), fun _ _ => bstr_soft⟩
  · cases h; exact ⟨(itoa_ok), fun h => nomatch h⟩
  · cases h; exact ⟨(rep_ok), fun h => nomatch h⟩
  · cases h

noncomputable def decimal_Print_T (R : Type) : Nat → Option (Hint × LSpec R) := fun i => match i with
  | _ => none

noncomputable def decimal_Print_X {R : Type} (decimal_Right : decimal_Right_ty R) (strings_Builder_WriteByte_b66c : strings_Builder_WriteByte_b66c_ty R) (strings_Builder_WriteString_df1e : strings_Builder_WriteString_df1e_ty R) (strings_Builder_WriteString_fb8e : strings_Builder_WriteString_fb8e_ty R) (x1 : Dcm) (k0 : Str → Option R) : Option R :=
  decimal_Right x1 (fun y2 => bif (!y2) then (k0 ([] : Str)) else (bif (decide (x1.mant < (0 : Int))) then (strings_Builder_WriteByte_b66c 45 (fun y3 => bif (decide (x1.exp ≥ (0 : Int))) then (chk (decide (0 ≤ x1.exp) && decide ((([48] : Str).length : Int) * x1.exp ≤ 140737488355328)) (chk (decide ((itoaS (max x1.mant (IntKind.i64.wrap (0 - x1.mant)))).length + (repS ([48] : Str) x1.exp).length ≤ 9223372036854775807)) (strings_Builder_WriteString_df1e ((itoaS (max x1.mant (IntKind.i64.wrap (0 - x1.mant)))) ++ (repS ([48] : Str) x1.exp)) y3 (fun y4 y5 => k0 (bstr y5))))) else (chk (decide (0 ≤ (max 0 (IntKind.i64.wrap ((IntKind.i64.wrap (1 - x1.exp)) - ((itoaS (max x1.mant (IntKind.i64.wrap (0 - x1.mant)))).length : Int))))) && decide ((([48] : Str).length : Int) * (max 0 (IntKind.i64.wrap ((IntKind.i64.wrap (1 - x1.exp)) - ((itoaS (max x1.mant (IntKind.i64.wrap (0 - x1.mant)))).length : Int)))) ≤ 140737488355328)) (chk (decide ((repS ([48] : Str) (max 0 (IntKind.i64.wrap ((IntKind.i64.wrap (1 - x1.exp)) - ((itoaS (max x1.mant (IntKind.i64.wrap (0 - x1.mant)))).length : Int))))).length + (itoaS (max x1.mant (IntKind.i64.wrap (0 - x1.mant)))).length ≤ 9223372036854775807)) (chk (decide ((0 : Int) ≤ (IntKind.i64.wrap ((((repS ([48] : Str) (max 0 (IntKind.i64.wrap ((IntKind.i64.wrap (1 - x1.exp)) - ((itoaS (max x1.mant (IntKind.i64.wrap (0 - x1.mant)))).length : Int))))) ++ (itoaS (max x1.mant (IntKind.i64.wrap (0 - x1.mant))))).length : Int) + x1.exp))) && decide ((IntKind.i64.wrap ((((repS ([48] : Str) (max 0 (IntKind.i64.wrap ((IntKind.i64.wrap (1 - x1.exp)) - ((itoaS (max x1.mant (IntKind.i64.wrap (0 - x1.mant)))).length : Int))))) ++ (itoaS (max x1.mant (IntKind.i64.wrap (0 - x1.mant))))).length : Int) + x1.exp)) ≤ ((repS ([48] : Str) (max 0 (IntKind.i64.wrap ((IntKind.i64.wrap (1 - x1.exp)) - ((itoaS (max x1.mant (IntKind.i64.wrap (0 - x1.mant)))).length : Int))))) ++ (itoaS (max x1.mant (IntKind.i64.wrap (0 - x1.mant))))).length)) (chk (decide ((0 : Int) ≤ (IntKind.i64.wrap ((((repS ([48] : Str) (max 0 (IntKind.i64.wrap ((IntKind.i64.wrap (1 - x1.exp)) - ((itoaS (max x1.mant (IntKind.i64.wrap (0 - x1.mant)))).length : Int))))) ++ (itoaS (max x1.mant (IntKind.i64.wrap (0 - x1.mant))))).length : Int) + x1.exp)))) (chk (decide (((((repS ([48] : Str) (max 0 (IntKind.i64.wrap ((IntKind.i64.wrap (1 - x1.exp)) - ((itoaS (max x1.mant (IntKind.i64.wrap (0 - x1.mant)))).length : Int))))) ++ (itoaS (max x1.mant (IntKind.i64.wrap (0 - x1.mant))))).drop 0).take ((IntKind.i64.wrap ((((repS ([48] : Str) (max 0 (IntKind.i64.wrap ((IntKind.i64.wrap (1 - x1.exp)) - ((itoaS (max x1.mant (IntKind.i64.wrap (0 - x1.mant)))).length : Int))))) ++ (itoaS (max x1.mant (IntKind.i64.wrap (0 - x1.mant))))).length : Int) + x1.exp)).toNat - 0)).length + 1 ≤ 9223372036854775807)) (chk (decide ((0 : Int) ≤ (((repS ([48] : Str) (max 0 (IntKind.i64.wrap ((IntKind.i64.wrap (1 - x1.exp)) - ((itoaS (max x1.mant (IntKind.i64.wrap (0 - x1.mant)))).length : Int))))) ++ (itoaS (max x1.mant (IntKind.i64.wrap (0 - x1.mant))))).length : Int)) && decide ((((repS ([48] : Str) (max 0 (IntKind.i64.wrap ((IntKind.i64.wrap (1 - x1.exp)) - ((itoaS (max x1.mant (IntKind.i64.wrap (0 - x1.mant)))).length : Int))))) ++ (itoaS (max x1.mant (IntKind.i64.wrap (0 - x1.mant))))).length : Int) ≤ ((repS ([48] : Str) (max 0 (IntKind.i64.wrap ((IntKind.i64.wrap (1 - x1.exp)) - ((itoaS (max x1.mant (IntKind.i64.wrap (0 - x1.mant)))).length : Int))))) ++ (itoaS (max x1.mant (IntKind.i64.wrap (0 - x1.mant))))).length)) (chk (decide ((0 : Int) ≤ (IntKind.i64.wrap ((((repS ([48] : Str) (max 0 (IntKind.i64.wrap ((IntKind.i64.wrap (1 - x1.exp)) - ((itoaS (max x1.mant (IntKind.i64.wrap (0 - x1.mant)))).length : Int))))) ++ (itoaS (max x1.mant (IntKind.i64.wrap (0 - x1.mant))))).length : Int) + x1.exp))) && decide ((IntKind.i64.wrap ((((repS ([48] : Str) (max 0 (IntKind.i64.wrap ((IntKind.i64.wrap (1 - x1.exp)) - ((itoaS (max x1.mant (IntKind.i64.wrap (0 - x1.mant)))).length : Int))))) ++ (itoaS (max x1.mant (IntKind.i64.wrap (0 - x1.mant))))).length : Int) + x1.exp)) ≤ (((repS ([48] : Str) (max 0 (IntKind.i64.wrap ((IntKind.i64.wrap (1 - x1.exp)) - ((itoaS (max x1.mant (IntKind.i64.wrap (0 - x1.mant)))).length : Int))))) ++ (itoaS (max x1.mant (IntKind.i64.wrap (0 - x1.mant))))).length : Int))) (chk (decide ((((((repS ([48] : Str) (max 0 (IntKind.i64.wrap ((IntKind.i64.wrap (1 - x1.exp)) - ((itoaS (max x1.mant (IntKind.i64.wrap (0 - x1.mant)))).length : Int))))) ++ (itoaS (max x1.mant (IntKind.i64.wrap (0 - x1.mant))))).drop 0).take ((IntKind.i64.wrap ((((repS ([48] : Str) (max 0 (IntKind.i64.wrap ((IntKind.i64.wrap (1 - x1.exp)) - ((itoaS (max x1.mant (IntKind.i64.wrap (0 - x1.mant)))).length : Int))))) ++ (itoaS (max x1.mant (IntKind.i64.wrap (0 - x1.mant))))).length : Int) + x1.exp)).toNat - 0)) ++ ([46] : Str)).length + ((((repS ([48] : Str) (max 0 (IntKind.i64.wrap ((IntKind.i64.wrap (1 - x1.exp)) - ((itoaS (max x1.mant (IntKind.i64.wrap (0 - x1.mant)))).length : Int))))) ++ (itoaS (max x1.mant (IntKind.i64.wrap (0 - x1.mant))))).drop (IntKind.i64.wrap ((((repS ([48] : Str) (max 0 (IntKind.i64.wrap ((IntKind.i64.wrap (1 - x1.exp)) - ((itoaS (max x1.mant (IntKind.i64.wrap (0 - x1.mant)))).length : Int))))) ++ (itoaS (max x1.mant (IntKind.i64.wrap (0 - x1.mant))))).length : Int) + x1.exp)).toNat).take ((((repS ([48] : Str) (max 0 (IntKind.i64.wrap ((IntKind.i64.wrap (1 - x1.exp)) - ((itoaS (max x1.mant (IntKind.i64.wrap (0 - x1.mant)))).length : Int))))) ++ (itoaS (max x1.mant (IntKind.i64.wrap (0 - x1.mant))))).length : Int).toNat - (IntKind.i64.wrap ((((repS ([48] : Str) (max 0 (IntKind.i64.wrap ((IntKind.i64.wrap (1 - x1.exp)) - ((itoaS (max x1.mant (IntKind.i64.wrap (0 - x1.mant)))).length : Int))))) ++ (itoaS (max x1.mant (IntKind.i64.wrap (0 - x1.mant))))).length : Int) + x1.exp)).toNat)).length ≤ 9223372036854775807)) (strings_Builder_WriteString_df1e ((((((repS ([48] : Str) (max 0 (IntKind.i64.wrap ((IntKind.i64.wrap (1 - x1.exp)) - ((itoaS (max x1.mant (IntKind.i64.wrap (0 - x1.mant)))).length : Int))))) ++ (itoaS (max x1.mant (IntKind.i64.wrap (0 - x1.mant))))).drop 0).take ((IntKind.i64.wrap ((((repS ([48] : Str) (max 0 (IntKind.i64.wrap ((IntKind.i64.wrap (1 - x1.exp)) - ((itoaS (max x1.mant (IntKind.i64.wrap (0 - x1.mant)))).length : Int))))) ++ (itoaS (max x1.mant (IntKind.i64.wrap (0 - x1.mant))))).length : Int) + x1.exp)).toNat - 0)) ++ ([46] : Str)) ++ ((((repS ([48] : Str) (max 0 (IntKind.i64.wrap ((IntKind.i64.wrap (1 - x1.exp)) - ((itoaS (max x1.mant (IntKind.i64.wrap (0 - x1.mant)))).length : Int))))) ++ (itoaS (max x1.mant (IntKind.i64.wrap (0 - x1.mant))))).drop (IntKind.i64.wrap ((((repS ([48] : Str) (max 0 (IntKind.i64.wrap ((IntKind.i64.wrap (1 - x1.exp)) - ((itoaS (max x1.mant (IntKind.i64.wrap (0 - x1.mant)))).length : Int))))) ++ (itoaS (max x1.mant (IntKind.i64.wrap (0 - x1.mant))))).length : Int) + x1.exp)).toNat).take ((((repS ([48] : Str) (max 0 (IntKind.i64.wrap ((IntKind.i64.wrap (1 - x1.exp)) - ((itoaS (max x1.mant (IntKind.i64.wrap (0 - x1.mant)))).length : Int))))) ++ (itoaS (max x1.mant (IntKind.i64.wrap (0 - x1.mant))))).length : Int).toNat - (IntKind.i64.wrap ((((repS ([48] : Str) (max 0 (IntKind.i64.wrap ((IntKind.i64.wrap (1 - x1.exp)) - ((itoaS (max x1.mant (IntKind.i64.wrap (0 - x1.mant)))).length : Int))))) ++ (itoaS (max x1.mant (IntKind.i64.wrap (0 - x1.mant))))).length : Int) + x1.exp)).toNat))) y3 (fun y6 y7 => k0 (bstr y7))))))))))))) else (bif (decide (x1.exp ≥ (0 : Int))) then (chk (decide (0 ≤ x1.exp) && decide ((([48] : Str).length : Int) * x1.exp ≤ 140737488355328)) (chk (decide ((itoaS (max x1.mant (IntKind.i64.wrap (0 - x1.mant)))).length + (repS ([48] : Str) x1.exp).length ≤ 9223372036854775807)) (strings_Builder_WriteString_fb8e ((itoaS (max x1.mant (IntKind.i64.wrap (0 - x1.mant)))) ++ (repS ([48] : Str) x1.exp)) (fun y8 y9 => k0 (bstr y9))))) else (chk (decide (0 ≤ (max 0 (IntKind.i64.wrap ((IntKind.i64.wrap (1 - x1.exp)) - ((itoaS (max x1.mant (IntKind.i64.wrap (0 - x1.mant)))).length : Int))))) && decide ((([48] : Str).length : Int) * (max 0 (IntKind.i64.wrap ((IntKind.i64.wrap (1 - x1.exp)) - ((itoaS (max x1.mant (IntKind.i64.wrap (0 - x1.mant)))).length : Int)))) ≤ 140737488355328)) (chk (decide ((repS ([48] : Str) (max 0 (IntKind.i64.wrap ((IntKind.i64.wrap (1 - x1.exp)) - ((itoaS (max x1.mant (IntKind.i64.wrap (0 - x1.mant)))).length : Int))))).length + (itoaS (max x1.mant (IntKind.i64.wrap (0 - x1.mant)))).length ≤ 9223372036854775807)) (chk (decide ((0 : Int) ≤ (IntKind.i64.wrap ((((repS ([48] : Str) (max 0 (IntKind.i64.wrap ((IntKind.i64.wrap (1 - x1.exp)) - ((itoaS (max x1.mant (IntKind.i64.wrap (0 - x1.mant)))).length : Int))))) ++ (itoaS (max x1.mant (IntKind.i64.wrap (0 - x1.mant))))).length : Int) + x1.exp))) && decide ((IntKind.i64.wrap ((((repS ([48] : Str) (max 0 (IntKind.i64.wrap ((IntKind.i64.wrap (1 - x1.exp)) - ((itoaS (max x1.mant (IntKind.i64.wrap (0 - x1.mant)))).length : Int))))) ++ (itoaS (max x1.mant (IntKind.i64.wrap (0 - x1.mant))))).length : Int) + x1.exp)) ≤ ((repS ([48] : Str) (max 0 (IntKind.i64.wrap ((IntKind.i64.wrap (1 - x1.exp)) - ((itoaS (max x1.mant (IntKind.i64.wrap (0 - x1.mant)))).length : Int))))) ++ (itoaS (max x1.mant (IntKind.i64.wrap (0 - x1.mant))))).length)) (chk (decide ((0 : Int) ≤ (IntKind.i64.wrap ((((repS ([48] : Str) (max 0 (IntKind.i64.wrap ((IntKind.i64.wrap (1 - x1.exp)) - ((itoaS (max x1.mant (IntKind.i64.wrap (0 - x1.mant)))).length : Int))))) ++ (itoaS (max x1.mant (IntKind.i64.wrap (0 - x1.mant))))).length : Int) + x1.exp)))) (chk (decide (((((repS ([48] : Str) (max 0 (IntKind.i64.wrap ((IntKind.i64.wrap (1 - x1.exp)) - ((itoaS (max x1.mant (IntKind.i64.wrap (0 - x1.mant)))).length : Int))))) ++ (itoaS (max x1.mant (IntKind.i64.wrap (0 - x1.mant))))).drop 0).take ((IntKind.i64.wrap ((((repS ([48] : Str) (max 0 (IntKind.i64.wrap ((IntKind.i64.wrap (1 - x1.exp)) - ((itoaS (max x1.mant (IntKind.i64.wrap (0 - x1.mant)))).length : Int))))) ++ (itoaS (max x1.mant (IntKind.i64.wrap (0 - x1.mant))))).length : Int) + x1.exp)).toNat - 0)).length + 1 ≤ 9223372036854775807)) (chk (decide ((0 : Int) ≤ (((repS ([48] : Str) (max 0 (IntKind.i64.wrap ((IntKind.i64.wrap (1 - x1.exp)) - ((itoaS (max x1.mant (IntKind.i64.wrap (0 - x1.mant)))).length : Int))))) ++ (itoaS (max x1.mant (IntKind.i64.wrap (0 - x1.mant))))).length : Int)) && decide ((((repS ([48] : Str) (max 0 (IntKind.i64.wrap ((IntKind.i64.wrap (1 - x1.exp)) - ((itoaS (max x1.mant (IntKind.i64.wrap (0 - x1.mant)))).length : Int))))) ++ (itoaS (max x1.mant (IntKind.i64.wrap (0 - x1.mant))))).length : Int) ≤ ((repS ([48] : Str) (max 0 (IntKind.i64.wrap ((IntKind.i64.wrap (1 - x1.exp)) - ((itoaS (max x1.mant (IntKind.i64.wrap (0 - x1.mant)))).length : Int))))) ++ (itoaS (max x1.mant (IntKind.i64.wrap (0 - x1.mant))))).length)) (chk (decide ((0 : Int) ≤ (IntKind.i64.wrap ((((repS ([48] : Str) (max 0 (IntKind.i64.wrap ((IntKind.i64.wrap (1 - x1.exp)) - ((itoaS (max x1.mant (IntKind.i64.wrap (0 - x1.mant)))).length : Int))))) ++ (itoaS (max x1.mant (IntKind.i64.wrap (0 - x1.mant))))).length : Int) + x1.exp))) && decide ((IntKind.i64.wrap ((((repS ([48] : Str) (max 0 (IntKind.i64.wrap ((IntKind.i64.wrap (1 - x1.exp)) - ((itoaS (max x1.mant (IntKind.i64.wrap (0 - x1.mant)))).length : Int))))) ++ (itoaS (max x1.mant (IntKind.i64.wrap (0 - x1.mant))))).length : Int) + x1.exp)) ≤ (((repS ([48] : Str) (max 0 (IntKind.i64.wrap ((IntKind.i64.wrap (1 - x1.exp)) - ((itoaS (max x1.mant (IntKind.i64.wrap (0 - x1.mant)))).length : Int))))) ++ (itoaS (max x1.mant (IntKind.i64.wrap (0 - x1.mant))))).length : Int))) (chk (decide ((((((repS ([48] : Str) (max 0 (IntKind.i64.wrap ((IntKind.i64.wrap (1 - x1.exp)) - ((itoaS (max x1.mant (IntKind.i64.wrap (0 - x1.mant)))).length : Int))))) ++ (itoaS (max x1.mant (IntKind.i64.wrap (0 - x1.mant))))).drop 0).take ((IntKind.i64.wrap ((((repS ([48] : Str) (max 0 (IntKind.i64.wrap ((IntKind.i64.wrap (1 - x1.exp)) - ((itoaS (max x1.mant (IntKind.i64.wrap (0 - x1.mant)))).length : Int))))) ++ (itoaS (max x1.mant (IntKind.i64.wrap (0 - x1.mant))))).length : Int) + x1.exp)).toNat - 0)) ++ ([46] : Str)).length + ((((repS ([48] : Str) (max 0 (IntKind.i64.wrap ((IntKind.i64.wrap (1 - x1.exp)) - ((itoaS (max x1.mant (IntKind.i64.wrap (0 - x1.mant)))).length : Int))))) ++ (itoaS (max x1.mant (IntKind.i64.wrap (0 - x1.mant))))).drop (IntKind.i64.wrap ((((repS ([48] : Str) (max 0 (IntKind.i64.wrap ((IntKind.i64.wrap (1 - x1.exp)) - ((itoaS (max x1.mant (IntKind.i64.wrap (0 - x1.mant)))).length : Int))))) ++ (itoaS (max x1.mant (IntKind.i64.wrap (0 - x1.mant))))).length : Int) + x1.exp)).toNat).take ((((repS ([48] : Str) (max 0 (IntKind.i64.wrap ((IntKind.i64.wrap (1 - x1.exp)) - ((itoaS (max x1.mant (IntKind.i64.wrap (0 - x1.mant)))).length : Int))))) ++ (itoaS (max x1.mant (IntKind.i64.wrap (0 - x1.mant))))).length : Int).toNat - (IntKind.i64.wrap ((((repS ([48] : Str) (max 0 (IntKind.i64.wrap ((IntKind.i64.wrap (1 - x1.exp)) - ((itoaS (max x1.mant (IntKind.i64.wrap (0 - x1.mant)))).length : Int))))) ++ (itoaS (max x1.mant (IntKind.i64.wrap (0 - x1.mant))))).length : Int) + x1.exp)).toNat)).length ≤ 9223372036854775807)) (strings_Builder_WriteString_fb8e ((((((repS ([48] : Str) (max 0 (IntKind.i64.wrap ((IntKind.i64.wrap (1 - x1.exp)) - ((itoaS (max x1.mant (IntKind.i64.wrap (0 - x1.mant)))).length : Int))))) ++ (itoaS (max x1.mant (IntKind.i64.wrap (0 - x1.mant))))).drop 0).take ((IntKind.i64.wrap ((((repS ([48] : Str) (max 0 (IntKind.i64.wrap ((IntKind.i64.wrap (1 - x1.exp)) - ((itoaS (max x1.mant (IntKind.i64.wrap (0 - x1.mant)))).length : Int))))) ++ (itoaS (max x1.mant (IntKind.i64.wrap (0 - x1.mant))))).length : Int) + x1.exp)).toNat - 0)) ++ ([46] : Str)) ++ ((((repS ([48] : Str) (max 0 (IntKind.i64.wrap ((IntKind.i64.wrap (1 - x1.exp)) - ((itoaS (max x1.mant (IntKind.i64.wrap (0 - x1.mant)))).length : Int))))) ++ (itoaS (max x1.mant (IntKind.i64.wrap (0 - x1.mant))))).drop (IntKind.i64.wrap ((((repS ([48] : Str) (max 0 (IntKind.i64.wrap ((IntKind.i64.wrap (1 - x1.exp)) - ((itoaS (max x1.mant (IntKind.i64.wrap (0 - x1.mant)))).length : Int))))) ++ (itoaS (max x1.mant (IntKind.i64.wrap (0 - x1.mant))))).length : Int) + x1.exp)).toNat).take ((((repS ([48] : Str) (max 0 (IntKind.i64.wrap ((IntKind.i64.wrap (1 - x1.exp)) - ((itoaS (max x1.mant (IntKind.i64.wrap (0 - x1.mant)))).length : Int))))) ++ (itoaS (max x1.mant (IntKind.i64.wrap (0 - x1.mant))))).length : Int).toNat - (IntKind.i64.wrap ((((repS ([48] : Str) (max 0 (IntKind.i64.wrap ((IntKind.i64.wrap (1 - x1.exp)) - ((itoaS (max x1.mant (IntKind.i64.wrap (0 - x1.mant)))).length : Int))))) ++ (itoaS (max x1.mant (IntKind.i64.wrap (0 - x1.mant))))).length : Int) + x1.exp)).toNat))) (fun y10 y11 => k0 (bstr y11))))))))))))))
noncomputable def decimal_Print {R : Type} : decimal_Print_ty R := fun x1 k0 => decimal_Print_X decimal_Right strings_Builder_WriteByte_b66c strings_Builder_WriteString_df1e strings_Builder_WriteString_fb8e x1 k0
theorem decimal_Print_ok {R : Type} (decimal_Right : decimal_Right_ty R) (strings_Builder_WriteByte_b66c : strings_Builder_WriteByte_b66c_ty R) (strings_Builder_WriteString_df1e : strings_Builder_WriteString_df1e_ty R) (strings_Builder_WriteString_fb8e : strings_Builder_WriteString_fb8e_ty R) (x1 : Dcm) (k : V → Heap → Option R) : funK tt (decimal_Print_E R decimal_Right strings_Builder_WriteByte_b66c strings_Builder_WriteString_df1e strings_Builder_WriteString_fb8e) (decimal_Print_T R) false Tryd.f28 (codeOf Tryd.f28) [.agg [.int .i64 x1.mant, .int .i64 x1.exp]] [] k =
    decimal_Print_X decimal_Right strings_Builder_WriteByte_b66c strings_Builder_WriteString_df1e strings_Builder_WriteString_fb8e x1 (fun q0 => k (.str q0) []) := by kernel_rfl
theorem decimal_Print_loops (R : Type) : ∀ a ∈ loopsOf (codeOf Tryd.f28), LoopOk tt (decimal_Print_E R decimal_Right strings_Builder_WriteByte_b66c strings_Builder_WriteString_df1e strings_Builder_WriteString_fb8e) (decimal_Print_T R) 0 a := by
  refine loops_ok 0 (by kernel_rfl) fun i hi => ?_
  omega
theorem decimal_Print_S_ok (R : Type) (other : Yard.Spec R) (ho : Yard.Spec.Ok Tryd.prog 28 other) : Yard.Spec.Ok Tryd.prog 28 (specBy decimal_Print_p decimal_Print_q (decimal_Print_rr decimal_Print) other) :=
  specBy_ok ho (funK_sound TT mixed (decimal_Print_EOk R) (keep := false) rfl rfl rfl rfl 0 (decimal_Print_loops R)) fun (x : Pat.dens decimal_Print_p) (y : HPat.dens decimal_Print_q) k => decimal_Print_ok decimal_Right strings_Builder_WriteByte_b66c strings_Builder_WriteString_df1e strings_Builder_WriteString_fb8e (⟨x.1.1, x.1.2.1⟩ : Dcm) k

/-! ### humpyard/humpyardlaw01.awake -/
abbrev law01_awake_ty (R : Type) : Type := (Bool → Option R) → Option R
abbrev law01_awake_p : List Pat := []
abbrev law01_awake_q : List HPat := []
noncomputable def law01_awake_rr {R : Type} (fn : law01_awake_ty R) : Pat.dens law01_awake_p → HPat.dens law01_awake_q → (V → Heap → Option R) → Option R := fun x y k => fn (fun q0 => k (.bool q0) [])
noncomputable def law01_awake_E (R : Type) (decimal_Print : decimal_Print_ty R) (decimal_Parse : decimal_Parse_ty R) (decimal_Right : decimal_Right_ty R) (decimal_Make : decimal_Make_ty R) (decimal_Int : decimal_Int_ty R) : Env R := fun i => match i with
  | 28 => some (true, (specBy decimal_Print_p decimal_Print_q (decimal_Print_rr decimal_Print) specNo))
  | 29 => some (true, (specBy decimal_Parse_p decimal_Parse_q (decimal_Parse_rr decimal_Parse) specNo))
  | 30 => some (true, (specBy decimal_Right_p decimal_Right_q (decimal_Right_rr decimal_Right) specNo))
  | 32 => some (true, (specBy decimal_Make_p decimal_Make_q (decimal_Make_rr decimal_Make) specNo))
  | 39 => some (true, (specBy decimal_Int_p decimal_Int_q (decimal_Int_rr decimal_Int) specNo))
  | _ => none
theorem law01_awake_EOk (R : Type) : EOk Tryd.prog (law01_awake_E R decimal_Print decimal_Parse decimal_Right decimal_Make decimal_Int) := by
  intro i b sp h
  unfold law01_awake_E at h
  split at h
  · cases h; exact ⟨(decimal_Print_S_ok R _ (specNo_ok _)), fun h => nomatch h⟩
  · cases h; exact ⟨(decimal_Parse_S_ok R _ (specNo_ok _)), fun h => nomatch h⟩
  · cases h; exact ⟨(decimal_Right_S_ok R _ (specNo_ok _)), fun h => nomatch h⟩
  · cases h; exact ⟨(decimal_Make_S_ok R _ (specNo_ok _)), fun h => nomatch h⟩
  · cases h; exact ⟨(decimal_Int_S_ok R _ (specNo_ok _)), fun h => nomatch h⟩
  · cases h

noncomputable def law01_awake_T (R : Type) : Nat → Option (Hint × LSpec R) := fun i => match i with
  | _ => none

noncomputable def law01_awake_X {R : Type} (decimal_Print : decimal_Print_ty R) (decimal_Parse : decimal_Parse_ty R) (decimal_Right : decimal_Right_ty R) (decimal_Make : decimal_Make_ty R) (decimal_Int : decimal_Int_ty R) (k0 : Bool → Option R) : Option R :=
  decimal_Parse ([45, 49, 46, 53, 48, 101, 49] : Str) (fun y1 y2 => decimal_Make 1200 (-1) (fun y3 y4 => decimal_Int y1 (fun y5 y6 => bif y2 then (bif (y1.mant == (-15) && (y1.exp == 0 && true)) then (bif y4 then (bif (y3.mant == 12 && (y3.exp == 1 && true)) then (decimal_Print (⟨25, (-3)⟩ : Dcm) (fun y7 => bif (y7 == ([48, 46, 48, 50, 53] : Str)) then (bif (y5 == (-15)) then (bif y6 then (decimal_Right y1 (fun y8 => k0 y8)) else (k0 false)) else (k0 false)) else (k0 false))) else (k0 false)) else (k0 false)) else (k0 false)) else (k0 false))))
noncomputable def law01_awake {R : Type} : law01_awake_ty R := fun  k0 => law01_awake_X decimal_Print decimal_Parse decimal_Right decimal_Make decimal_Int  k0
theorem law01_awake_ok {R : Type} (decimal_Print : decimal_Print_ty R) (decimal_Parse : decimal_Parse_ty R) (decimal_Right : decimal_Right_ty R) (decimal_Make : decimal_Make_ty R) (decimal_Int : decimal_Int_ty R) (k : V → Heap → Option R) : funK tt (law01_awake_E R decimal_Print decimal_Parse decimal_Right decimal_Make decimal_Int) (law01_awake_T R) false Tryd.f26 (codeOf Tryd.f26) [] [] k =
    law01_awake_X decimal_Print decimal_Parse decimal_Right decimal_Make decimal_Int  (fun q0 => k (.bool q0) []) := by kernel_rfl
theorem law01_awake_loops (R : Type) : ∀ a ∈ loopsOf (codeOf Tryd.f26), LoopOk tt (law01_awake_E R decimal_Print decimal_Parse decimal_Right decimal_Make decimal_Int) (law01_awake_T R) 0 a := by
  refine loops_ok 0 (by kernel_rfl) fun i hi => ?_
  omega
theorem law01_awake_S_ok (R : Type) (other : Yard.Spec R) (ho : Yard.Spec.Ok Tryd.prog 26 other) : Yard.Spec.Ok Tryd.prog 26 (specBy law01_awake_p law01_awake_q (law01_awake_rr law01_awake) other) :=
  specBy_ok ho (funK_sound TT mixed (law01_awake_EOk R) (keep := false) rfl rfl rfl rfl 0 (law01_awake_loops R)) fun (x : Pat.dens law01_awake_p) (y : HPat.dens law01_awake_q) k => law01_awake_ok decimal_Print decimal_Parse decimal_Right decimal_Make decimal_Int  k

end Go.Proofs.YtifgegmnngfckaaDoor

/-
  The first calls of the laws of quote and decimal, run. Own work.
-/
set_option maxRecDepth 100000
namespace Go.Proofs.YtifgegmnngfckaaDoor
open Go Go.Yard
theorem awake02 {R : Type} (k : Bool → Option R) : law02_awake k = k true := by kernel_rfl
theorem awake01 {R : Type} (k : Bool → Option R) : law01_awake k = k true := by kernel_rfl
end Go.Proofs.YtifgegmnngfckaaDoor

/-
  QuoteWhole. Own work.
-/
set_option linter.unusedVariables false
namespace Go.Proofs.YtifgegmnngfckaaDoor
open Go Go.Yard

theorem small_i64 {N : Nat} {l : List Int} (h : Small N (.sl (.int .i64) l .no)) : l.length ≤ N ∧ ∀ x ∈ l, I64 x := by
  cases h with
  | sl h he => exact ⟨h, fun x hx => i64_has.1 (he x hx (.int .i64 x) (by simp [Ty.cells])).int_inv⟩

theorem quoteWhole_true {R : Type} (s : Str) (raw : List Int) (hs : Small 1048576 (.str s)) (hr : Small 1048576 (.sl (.int .i64) raw .no)) (k : Bool → Option R) : law02_QuoteWhole s raw k = k true := by
  obtain ⟨rs, h1, h2, h3⟩ := text_ok (R := R) raw (small_i64 hr).2
  have hsl := hs.str_inv
  show law02_QuoteWhole_X law02_awake law02_Text quote_Whole s raw k = k true
  unfold law02_QuoteWhole_X
  rw [awake02]
  simp only [h3, cond_true]
  have hw : validS (encL rs) = true := whole_iff.2 ⟨rs, h1, rfl⟩
  have q : ∀ (x : Str) (f : Bool → Option R), quote_Whole x f = f (validS x) := fun _ _ => rfl
  simp only [q, hw, cond_true, validS_app hw]
  rw [chk_pos (dtrue (by omega))]
  simp only [BEq.rfl, cond_true]
  rw [chk_pos (dtrue (by omega)), chk_pos (dtrue (by simp only [List.length_append, List.length_cons, List.length_nil]; omega))]
  have e : (s ++ [97]) ++ encL rs = s ++ (97 : UInt8) :: encL rs := by simp
  rw [e, validS_mid (by decide) _ s.length s (Nat.le_refl _), hw]
  simp
end Go.Proofs.YtifgegmnngfckaaDoor

/-
  Functions of the program as pure Lean functions, and the ties; printed by wip/tools/emit.py.
-/
set_option maxRecDepth 100000
set_option linter.unusedVariables false
namespace Go.Proofs.YtifgegmnngfckaaDoor
open Go Go.Yard

/-! ### humpyard/humpyardref02.one -/
abbrev ref02_one_ty (R : Type) : Type := Str → Int → (Int → Option R) → Option R
abbrev ref02_one_p : List Pat := [.leaf (.str), .leaf (.int .i64)]
abbrev ref02_one_q : List HPat := []
noncomputable def ref02_one_rr {R : Type} (fn : ref02_one_ty R) : Pat.dens ref02_one_p → HPat.dens ref02_one_q → (V → Heap → Option R) → Option R := fun x y k => fn x.1 x.2.1 (fun q0 => k (.int .i64 q0) [])
abbrev ref02_one_23_0_ty (R : Type) : Type := Nat → Str → Int → Int → Int → Int → Int → (Int → Int → Int → Option R) → (Int → Int → Int → Int → Option R) → Option R
noncomputable def ref02_one_E (R : Type) : Env R := fun i => match i with
  | _ => none
theorem ref02_one_EOk (R : Type) : EOk Tryd.prog (ref02_one_E R) := by
  intro i b sp h
  unfold ref02_one_E at h
  split at h
  · cases h

noncomputable def ref02_one_23_0_B {R : Type} (rec' : Str → Int → Int → Int → Int → Int → Option R) (x12 : Str) (x13 : Int) (x14 : Int) (x15 : Int) (x16 : Int) (x17 : Int) (e0 : Int → Int → Int → Option R) (e1 : Int → Int → Int → Int → Option R) : Option R :=
  bif (decide (x17 < x14)) then (chk (decide ((0 : Int) ≤ (IntKind.i64.wrap (x13 + x17))) && decide ((IntKind.i64.wrap (x13 + x17)) < x12.length)) (bif ((IntKind.u8.wrap ((BitVec.ofInt IntKind.u8.bits ((x12.getD ((IntKind.i64.wrap (x13 + x17)).toNat) 0).toNat : Int) &&& BitVec.ofInt IntKind.u8.bits 192).toNat : Int)) != 128) then (e1 0 x14 x15 x16) else (chk (decide ((0 : Int) ≤ (IntKind.i64.wrap (x13 + x17))) && decide ((IntKind.i64.wrap (x13 + x17)) < x12.length)) (rec' x12 x13 x14 x15 (IntKind.i64.wrap ((BitVec.ofInt IntKind.i64.bits (IntKind.i64.wrap (x16 * 2 ^ (min 6 IntKind.i64.bits))) ||| BitVec.ofInt IntKind.i64.bits (IntKind.i64.wrap (IntKind.u8.wrap ((BitVec.ofInt IntKind.u8.bits ((x12.getD ((IntKind.i64.wrap (x13 + x17)).toNat) 0).toNat : Int) &&& BitVec.ofInt IntKind.u8.bits 63).toNat : Int)))).toNat : Int)) (IntKind.i64.wrap (x17 + 1)))))) else (e0 x14 x15 x16)
noncomputable def ref02_one_23_0_L {R : Type} : ref02_one_23_0_ty R
  | 0, _, _, _, _, _, _, _, _ => none
  | n + 1, x0', x1', x2', x3', x4', x5', e0, e1 => ref02_one_23_0_B (fun x0' x1' x2' x3' x4' x5' => ref02_one_23_0_L n x0' x1' x2' x3' x4' x5' e0 e1) x0' x1' x2' x3' x4' x5' e0 e1
noncomputable def ref02_one_23_0_h : Hint := { live := [0, 1, 6, 7, 8, 9], own := [], rows := [], cells := [], drop := [], out := [4, 6, 7, 8] }
abbrev ref02_one_23_0_D : Type := Str × Int × Int × Int × Int × Int
noncomputable def ref02_one_23_0_enc : ref02_one_23_0_D → St := fun d => ⟨[.str d.1, .int .i64 d.2.1, .undef, .undef, .undef, .undef, .int .i64 d.2.2.1, .int .i64 d.2.2.2.1, .int .i64 d.2.2.2.2.1, .int .i64 d.2.2.2.2.2, .undef, .undef, .undef, .undef, .undef, .undef, .undef, .undef, .undef, .undef, .undef, .undef, .undef, .undef, .undef, .undef, .undef, .undef, .undef, .undef, .undef, .undef, .undef, .undef, .undef, .undef, .undef, .undef, .undef, .undef, .undef, .undef, .undef, .undef, .undef, .undef, .undef, .undef, .undef, .undef, .undef, .undef, .undef, .undef, .undef, .undef, .undef, .undef, .undef, .undef, .undef, .undef, .undef, .undef, .undef, .undef, .undef, .undef, .undef, .undef, .undef, .undef, .undef, .undef, .undef, .undef, .undef, .undef, .undef, .undef, .undef, .undef, .undef, .undef, .undef, .undef, .undef, .undef, .undef, .undef], []⟩
noncomputable def ref02_one_23_0_x0 {R : Type} (K : Ex → St → Option R) (q0 : Int) (q1 : Int) (q2 : Int) : Option R := K (.exit 1) ⟨[.undef, .undef, .undef, .undef, .undef, .undef, .int .i64 q0, .int .i64 q1, .int .i64 q2, .undef, .undef, .undef, .undef, .undef, .undef, .undef, .undef, .undef, .undef, .undef, .undef, .undef, .undef, .undef, .undef, .undef, .undef, .undef, .undef, .undef, .undef, .undef, .undef, .undef, .undef, .undef, .undef, .undef, .undef, .undef, .undef, .undef, .undef, .undef, .undef, .undef, .undef, .undef, .undef, .undef, .undef, .undef, .undef, .undef, .undef, .undef, .undef, .undef, .undef, .undef, .undef, .undef, .undef, .undef, .undef, .undef, .undef, .undef, .undef, .undef, .undef, .undef, .undef, .undef, .undef, .undef, .undef, .undef, .undef, .undef, .undef, .undef, .undef, .undef, .undef, .undef, .undef, .undef, .undef, .undef], []⟩
noncomputable def ref02_one_23_0_x1 {R : Type} (K : Ex → St → Option R) (q0 : Int) (q1 : Int) (q2 : Int) (q3 : Int) : Option R := K (.ret) ⟨[.undef, .undef, .undef, .undef, .int .i64 q0, .undef, .int .i64 q1, .int .i64 q2, .int .i64 q3, .undef, .undef, .undef, .undef, .undef, .undef, .undef, .undef, .undef, .undef, .undef, .undef, .undef, .undef, .undef, .undef, .undef, .undef, .undef, .undef, .undef, .undef, .undef, .undef, .undef, .undef, .undef, .undef, .undef, .undef, .undef, .undef, .undef, .undef, .undef, .undef, .undef, .undef, .undef, .undef, .undef, .undef, .undef, .undef, .undef, .undef, .undef, .undef, .undef, .undef, .undef, .undef, .undef, .undef, .undef, .undef, .undef, .undef, .undef, .undef, .undef, .undef, .undef, .undef, .undef, .undef, .undef, .undef, .undef, .undef, .undef, .undef, .undef, .undef, .undef, .undef, .undef, .undef, .undef, .undef, .undef], []⟩
noncomputable def ref02_one_23_0_s {R : Type} (K : Ex → St → Option R) (rc : ref02_one_23_0_D → Option R) (d : ref02_one_23_0_D) : Option R := ref02_one_23_0_B (fun z0 z1 z2 z3 z4 z5 => rc (z0, z1, z2, z3, z4, z5)) d.1 d.2.1 d.2.2.1 d.2.2.2.1 d.2.2.2.2.1 d.2.2.2.2.2 (ref02_one_23_0_x0 K) (ref02_one_23_0_x1 K)
noncomputable def ref02_one_23_0_A {R : Type} (K : Ex → St → Option R) (n : Nat) (d : ref02_one_23_0_D) : Option R := ref02_one_23_0_L n d.1 d.2.1 d.2.2.1 d.2.2.2.1 d.2.2.2.2.1 d.2.2.2.2.2 (ref02_one_23_0_x0 K) (ref02_one_23_0_x1 K)
abbrev ref02_one_23_0_p : List Pat := [.leaf (.str), .leaf (.int .i64), .leaf (.undef), .leaf (.undef), .leaf (.undef), .leaf (.undef), .leaf (.int .i64), .leaf (.int .i64), .leaf (.int .i64), .leaf (.int .i64), .leaf (.undef), .leaf (.undef), .leaf (.undef), .leaf (.undef), .leaf (.undef), .leaf (.undef), .leaf (.undef), .leaf (.undef), .leaf (.undef), .leaf (.undef), .leaf (.undef), .leaf (.undef), .leaf (.undef), .leaf (.undef), .leaf (.undef), .leaf (.undef), .leaf (.undef), .leaf (.undef), .leaf (.undef), .leaf (.undef), .leaf (.undef), .leaf (.undef), .leaf (.undef), .leaf (.undef), .leaf (.undef), .leaf (.undef), .leaf (.undef), .leaf (.undef), .leaf (.undef), .leaf (.undef), .leaf (.undef), .leaf (.undef), .leaf (.undef), .leaf (.undef), .leaf (.undef), .leaf (.undef), .leaf (.undef), .leaf (.undef), .leaf (.undef), .leaf (.undef), .leaf (.undef), .leaf (.undef), .leaf (.undef), .leaf (.undef), .leaf (.undef), .leaf (.undef), .leaf (.undef), .leaf (.undef), .leaf (.undef), .leaf (.undef), .leaf (.undef), .leaf (.undef), .leaf (.undef), .leaf (.undef), .leaf (.undef), .leaf (.undef), .leaf (.undef), .leaf (.undef), .leaf (.undef), .leaf (.undef), .leaf (.undef), .leaf (.undef), .leaf (.undef), .leaf (.undef), .leaf (.undef), .leaf (.undef), .leaf (.undef), .leaf (.undef), .leaf (.undef), .leaf (.undef), .leaf (.undef), .leaf (.undef), .leaf (.undef), .leaf (.undef), .leaf (.undef), .leaf (.undef), .leaf (.undef), .leaf (.undef), .leaf (.undef), .leaf (.undef)]
abbrev ref02_one_23_0_q : List HPat := []
noncomputable def ref02_one_23_0_f (x : Pat.dens ref02_one_23_0_p) (y : HPat.dens ref02_one_23_0_q) : Nat := (List.length x.1 + Int.natAbs x.2.1 + Int.natAbs x.2.2.2.2.2.2.1 + Int.natAbs x.2.2.2.2.2.2.2.1 + Int.natAbs x.2.2.2.2.2.2.2.2.1 + Int.natAbs x.2.2.2.2.2.2.2.2.2.1 + 64)
noncomputable def ref02_one_23_0_d (x : Pat.dens ref02_one_23_0_p) (y : HPat.dens ref02_one_23_0_q) : ref02_one_23_0_D := (x.1, x.2.1, x.2.2.2.2.2.2.1, x.2.2.2.2.2.2.2.1, x.2.2.2.2.2.2.2.2.1, x.2.2.2.2.2.2.2.2.2.1)
noncomputable def ref02_one_23_0_rr {R : Type} (L : ref02_one_23_0_ty R) : Pat.dens ref02_one_23_0_p → HPat.dens ref02_one_23_0_q → (Ex → St → Option R) → Option R := fun x y K => L (ref02_one_23_0_f x y) x.1 x.2.1 x.2.2.2.2.2.2.1 x.2.2.2.2.2.2.2.1 x.2.2.2.2.2.2.2.2.1 x.2.2.2.2.2.2.2.2.2.1 (ref02_one_23_0_x0 K) (ref02_one_23_0_x1 K)
noncomputable def ref02_one_T (R : Type) (ref02_one_23_0_L : ref02_one_23_0_ty R) : Nat → Option (Hint × LSpec R) := fun i => match i with
  | 23 => some (ref02_one_23_0_h, (loopBy ref02_one_23_0_p ref02_one_23_0_q (ref02_one_23_0_rr ref02_one_23_0_L) loopNo))
  | _ => none

theorem ref02_one_23_0_B_ok {R : Type} (ref02_one_23_0_L : ref02_one_23_0_ty R) (K : Ex → St → Option R) (rc : St → Option R) (d : ref02_one_23_0_D) : roundOf tt (ref02_one_E R) (ref02_one_T R ref02_one_23_0_L) 0 ((loopsOf (codeOf Tryd.f54)).getD 0 .skip) ref02_one_23_0_h (ref02_one_23_0_enc d) rc K = ref02_one_23_0_s K (fun d => rc (ref02_one_23_0_enc d)) d := by kernel_rfl
theorem ref02_one_23_0_A_succ {R : Type} (K : Ex → St → Option R) (n : Nat) (d : ref02_one_23_0_D) : ref02_one_23_0_A K (n + 1) d = ref02_one_23_0_s K (ref02_one_23_0_A K n) d := by kernel_rfl
theorem ref02_one_23_0_A_zero {R : Type} (K : Ex → St → Option R) (d : ref02_one_23_0_D) : ref02_one_23_0_A K 0 d = none := by kernel_rfl
theorem ref02_one_23_0_e_ok (x : Pat.dens ref02_one_23_0_p) (y : HPat.dens ref02_one_23_0_q) : (⟨Pat.encL ref02_one_23_0_p x, HPat.encL ref02_one_23_0_q y⟩ : St) = ref02_one_23_0_enc (ref02_one_23_0_d x y) := by kernel_rfl
theorem ref02_one_23_0_r_ok {R : Type} (x : Pat.dens ref02_one_23_0_p) (y : HPat.dens ref02_one_23_0_q) (K : Ex → St → Option R) : ref02_one_23_0_rr (ref02_one_23_0_L) x y K = ref02_one_23_0_A K (ref02_one_23_0_f x y) (ref02_one_23_0_d x y) := by kernel_rfl
theorem ref02_one_23_0_ok {R : Type} (other : LSpec R) (ho : LsOk tt (ref02_one_E R) (ref02_one_T R ref02_one_23_0_L) 0 ((loopsOf (codeOf Tryd.f54)).getD 0 .skip) ref02_one_23_0_h other) : LsOk tt (ref02_one_E R) (ref02_one_T R ref02_one_23_0_L) 0 ((loopsOf (codeOf Tryd.f54)).getD 0 .skip) ref02_one_23_0_h (loopBy ref02_one_23_0_p ref02_one_23_0_q (ref02_one_23_0_rr (ref02_one_23_0_L)) other) :=
  loopBy_tie (A := ref02_one_23_0_A) ho (loop_tie ref02_one_23_0_enc (ref02_one_23_0_s) (ref02_one_23_0_A) (ref02_one_23_0_A_zero) (ref02_one_23_0_B_ok ref02_one_23_0_L) (ref02_one_23_0_A_succ)) ref02_one_23_0_f ref02_one_23_0_d ref02_one_23_0_e_ok (ref02_one_23_0_r_ok)

noncomputable def ref02_one_X {R : Type} (ref02_one_23_0_L : ref02_one_23_0_ty R) (x1 : Str) (x2 : Int) (k0 : Int → Option R) : Option R :=
  chk (decide ((0 : Int) ≤ x2) && decide (x2 < x1.length)) (let j26 := fun (z9 : Int) (z10 : Int) (z11 : Int) => bif (decide ((IntKind.i64.wrap (x2 + z9)) > (x1.length : Int))) then (k0 0) else (ref02_one_23_0_L (List.length x1 + Int.natAbs x2 + Int.natAbs z9 + Int.natAbs z10 + Int.natAbs z11 + Int.natAbs 1 + 64) x1 x2 z9 z10 z11 1 (fun y18 y19 y20 => bif (decide (y20 < y19)) then (k0 0) else (bif (decide (y20 > (1114111 : Int))) then (k0 0) else (bif (decide (y20 ≥ (55296 : Int))) then (bif (decide (y20 ≤ (57343 : Int))) then (k0 0) else (k0 y18)) else (k0 y18)))) (fun y21 y22 y23 y24 => k0 y21)); bif (decide (((x1.getD x2.toNat 0).toNat : Int) < (128 : Int))) then (k0 1) else (let j8 := fun (z3 : Bool) => bif z3 then (j26 2 128 (IntKind.i64.wrap (IntKind.u8.wrap ((BitVec.ofInt IntKind.u8.bits ((x1.getD x2.toNat 0).toNat : Int) &&& BitVec.ofInt IntKind.u8.bits 31).toNat : Int)))) else (bif (decide (((x1.getD x2.toNat 0).toNat : Int) ≥ (224 : Int))) then (bif (decide (((x1.getD x2.toNat 0).toNat : Int) ≤ (239 : Int))) then (j26 3 2048 (IntKind.i64.wrap (IntKind.u8.wrap ((BitVec.ofInt IntKind.u8.bits ((x1.getD x2.toNat 0).toNat : Int) &&& BitVec.ofInt IntKind.u8.bits 15).toNat : Int)))) else (bif (decide (((x1.getD x2.toNat 0).toNat : Int) ≥ (240 : Int))) then (bif (decide (((x1.getD x2.toNat 0).toNat : Int) ≤ (244 : Int))) then (j26 4 65536 (IntKind.i64.wrap (IntKind.u8.wrap ((BitVec.ofInt IntKind.u8.bits ((x1.getD x2.toNat 0).toNat : Int) &&& BitVec.ofInt IntKind.u8.bits 7).toNat : Int)))) else (k0 0)) else (k0 0))) else (bif (decide (((x1.getD x2.toNat 0).toNat : Int) ≥ (240 : Int))) then (bif (decide (((x1.getD x2.toNat 0).toNat : Int) ≤ (244 : Int))) then (j26 4 65536 (IntKind.i64.wrap (IntKind.u8.wrap ((BitVec.ofInt IntKind.u8.bits ((x1.getD x2.toNat 0).toNat : Int) &&& BitVec.ofInt IntKind.u8.bits 7).toNat : Int)))) else (k0 0)) else (k0 0))); bif (decide (((x1.getD x2.toNat 0).toNat : Int) ≥ (194 : Int))) then (j8 (decide (((x1.getD x2.toNat 0).toNat : Int) ≤ (223 : Int)))) else (j8 false)))
noncomputable def ref02_one {R : Type} : ref02_one_ty R := fun x1 x2 k0 => ref02_one_X ref02_one_23_0_L x1 x2 k0
theorem ref02_one_ok {R : Type} (ref02_one_23_0_L : ref02_one_23_0_ty R) (x1 : Str) (x2 : Int) (k : V → Heap → Option R) : funK tt (ref02_one_E R) (ref02_one_T R ref02_one_23_0_L) false Tryd.f54 (codeOf Tryd.f54) [.str x1, .int .i64 x2] [] k =
    ref02_one_X ref02_one_23_0_L x1 x2 (fun q0 => k (.int .i64 q0) []) := by kernel_rfl
theorem ref02_one_loops (R : Type) : ∀ a ∈ loopsOf (codeOf Tryd.f54), LoopOk tt (ref02_one_E R) (ref02_one_T R ref02_one_23_0_L) 0 a := by
  refine loops_ok 1 (by kernel_rfl) fun i hi => ?_
  match i, hi with
  | 0, _ => exact loopOk_some (by kernel_rfl) (ref02_one_23_0_ok _ loopNo_ok)
  | n + 1, hi => omega
theorem ref02_one_S_ok (R : Type) (other : Yard.Spec R) (ho : Yard.Spec.Ok Tryd.prog 54 other) : Yard.Spec.Ok Tryd.prog 54 (specBy ref02_one_p ref02_one_q (ref02_one_rr ref02_one) other) :=
  specBy_ok ho (funK_sound TT mixed (ref02_one_EOk R) (keep := false) rfl rfl rfl rfl 0 (ref02_one_loops R)) fun (x : Pat.dens ref02_one_p) (y : HPat.dens ref02_one_q) k => ref02_one_ok ref02_one_23_0_L x.1 x.2.1 k

/-! ### humpyard/humpyardref02.Whole -/
abbrev ref02_Whole_ty (R : Type) : Type := Str → (Bool → Option R) → Option R
abbrev ref02_Whole_p : List Pat := [.leaf (.str)]
abbrev ref02_Whole_q : List HPat := []
noncomputable def ref02_Whole_rr {R : Type} (fn : ref02_Whole_ty R) : Pat.dens ref02_Whole_p → HPat.dens ref02_Whole_q → (V → Heap → Option R) → Option R := fun x y k => fn x.1 (fun q0 => k (.bool q0) [])
abbrev ref02_Whole_2_0_ty (R : Type) : Type := Nat → Str → Int → (Option R) → (Bool → Option R) → Option R
noncomputable def ref02_Whole_E (R : Type) (ref02_one : ref02_one_ty R) : Env R := fun i => match i with
  | 54 => some (true, (specBy ref02_one_p ref02_one_q (ref02_one_rr ref02_one) specNo))
  | _ => none
theorem ref02_Whole_EOk (R : Type) : EOk Tryd.prog (ref02_Whole_E R ref02_one) := by
  intro i b sp h
  unfold ref02_Whole_E at h
  split at h
  · cases h; exact ⟨(ref02_one_S_ok R _ (specNo_ok _)), fun h => nomatch h⟩
  · cases h

noncomputable def ref02_Whole_2_0_B {R : Type} (ref02_one : ref02_one_ty R) (rec' : Str → Int → Option R) (x2 : Str) (x3 : Int) (e0 : Option R) (e1 : Bool → Option R) : Option R :=
  bif (decide (x3 < (x2.length : Int))) then (ref02_one x2 x3 (fun y4 => bif (y4 == 0) then (e1 false) else (rec' x2 (IntKind.i64.wrap (x3 + y4))))) else (e0)
noncomputable def ref02_Whole_2_0_L {R : Type} : ref02_Whole_2_0_ty R
  | 0, _, _, _, _ => none
  | n + 1, x0', x1', e0, e1 => ref02_Whole_2_0_B ref02_one (fun x0' x1' => ref02_Whole_2_0_L n x0' x1' e0 e1) x0' x1' e0 e1
noncomputable def ref02_Whole_2_0_h : Hint := { live := [0, 3], own := [], rows := [], cells := [], drop := [], out := [2] }
abbrev ref02_Whole_2_0_D : Type := Str × Int
noncomputable def ref02_Whole_2_0_enc : ref02_Whole_2_0_D → St := fun d => ⟨[.str d.1, .undef, .undef, .int .i64 d.2, .undef, .undef, .undef, .undef, .undef, .undef, .undef, .undef, .undef, .undef, .undef, .undef, .undef], []⟩
noncomputable def ref02_Whole_2_0_x0 {R : Type} (K : Ex → St → Option R) : Option R := K (.exit 0) ⟨[.undef, .undef, .undef, .undef, .undef, .undef, .undef, .undef, .undef, .undef, .undef, .undef, .undef, .undef, .undef, .undef, .undef], []⟩
noncomputable def ref02_Whole_2_0_x1 {R : Type} (K : Ex → St → Option R) (q0 : Bool) : Option R := K (.ret) ⟨[.undef, .undef, .bool q0, .undef, .undef, .undef, .undef, .undef, .undef, .undef, .undef, .undef, .undef, .undef, .undef, .undef, .undef], []⟩
noncomputable def ref02_Whole_2_0_s {R : Type} (ref02_one : ref02_one_ty R) (K : Ex → St → Option R) (rc : ref02_Whole_2_0_D → Option R) (d : ref02_Whole_2_0_D) : Option R := ref02_Whole_2_0_B ref02_one (fun z0 z1 => rc (z0, z1)) d.1 d.2 (ref02_Whole_2_0_x0 K) (ref02_Whole_2_0_x1 K)
noncomputable def ref02_Whole_2_0_A {R : Type} (K : Ex → St → Option R) (n : Nat) (d : ref02_Whole_2_0_D) : Option R := ref02_Whole_2_0_L n d.1 d.2 (ref02_Whole_2_0_x0 K) (ref02_Whole_2_0_x1 K)
abbrev ref02_Whole_2_0_p : List Pat := [.leaf (.str), .leaf (.undef), .leaf (.undef), .leaf (.int .i64), .leaf (.undef), .leaf (.undef), .leaf (.undef), .leaf (.undef), .leaf (.undef), .leaf (.undef), .leaf (.undef), .leaf (.undef), .leaf (.undef), .leaf (.undef), .leaf (.undef), .leaf (.undef), .leaf (.undef)]
abbrev ref02_Whole_2_0_q : List HPat := []
noncomputable def ref02_Whole_2_0_f (x : Pat.dens ref02_Whole_2_0_p) (y : HPat.dens ref02_Whole_2_0_q) : Nat := (List.length x.1 + Int.natAbs x.2.2.2.1 + 64)
noncomputable def ref02_Whole_2_0_d (x : Pat.dens ref02_Whole_2_0_p) (y : HPat.dens ref02_Whole_2_0_q) : ref02_Whole_2_0_D := (x.1, x.2.2.2.1)
noncomputable def ref02_Whole_2_0_rr {R : Type} (L : ref02_Whole_2_0_ty R) : Pat.dens ref02_Whole_2_0_p → HPat.dens ref02_Whole_2_0_q → (Ex → St → Option R) → Option R := fun x y K => L (ref02_Whole_2_0_f x y) x.1 x.2.2.2.1 (ref02_Whole_2_0_x0 K) (ref02_Whole_2_0_x1 K)
noncomputable def ref02_Whole_T (R : Type) (ref02_Whole_2_0_L : ref02_Whole_2_0_ty R) : Nat → Option (Hint × LSpec R) := fun i => match i with
  | 2 => some (ref02_Whole_2_0_h, (loopBy ref02_Whole_2_0_p ref02_Whole_2_0_q (ref02_Whole_2_0_rr ref02_Whole_2_0_L) loopNo))
  | _ => none

theorem ref02_Whole_2_0_B_ok {R : Type} (ref02_one : ref02_one_ty R) (ref02_Whole_2_0_L : ref02_Whole_2_0_ty R) (K : Ex → St → Option R) (rc : St → Option R) (d : ref02_Whole_2_0_D) : roundOf tt (ref02_Whole_E R ref02_one) (ref02_Whole_T R ref02_Whole_2_0_L) 0 ((loopsOf (codeOf Tryd.f25)).getD 0 .skip) ref02_Whole_2_0_h (ref02_Whole_2_0_enc d) rc K = ref02_Whole_2_0_s ref02_one K (fun d => rc (ref02_Whole_2_0_enc d)) d := by kernel_rfl
theorem ref02_Whole_2_0_A_succ {R : Type} (K : Ex → St → Option R) (n : Nat) (d : ref02_Whole_2_0_D) : ref02_Whole_2_0_A K (n + 1) d = ref02_Whole_2_0_s ref02_one K (ref02_Whole_2_0_A K n) d := by kernel_rfl
theorem ref02_Whole_2_0_A_zero {R : Type} (K : Ex → St → Option R) (d : ref02_Whole_2_0_D) : ref02_Whole_2_0_A K 0 d = none := by kernel_rfl
theorem ref02_Whole_2_0_e_ok (x : Pat.dens ref02_Whole_2_0_p) (y : HPat.dens ref02_Whole_2_0_q) : (⟨Pat.encL ref02_Whole_2_0_p x, HPat.encL ref02_Whole_2_0_q y⟩ : St) = ref02_Whole_2_0_enc (ref02_Whole_2_0_d x y) := by kernel_rfl
theorem ref02_Whole_2_0_r_ok {R : Type} (x : Pat.dens ref02_Whole_2_0_p) (y : HPat.dens ref02_Whole_2_0_q) (K : Ex → St → Option R) : ref02_Whole_2_0_rr (ref02_Whole_2_0_L) x y K = ref02_Whole_2_0_A K (ref02_Whole_2_0_f x y) (ref02_Whole_2_0_d x y) := by kernel_rfl
theorem ref02_Whole_2_0_ok {R : Type} (other : LSpec R) (ho : LsOk tt (ref02_Whole_E R ref02_one) (ref02_Whole_T R ref02_Whole_2_0_L) 0 ((loopsOf (codeOf Tryd.f25)).getD 0 .skip) ref02_Whole_2_0_h other) : LsOk tt (ref02_Whole_E R ref02_one) (ref02_Whole_T R ref02_Whole_2_0_L) 0 ((loopsOf (codeOf Tryd.f25)).getD 0 .skip) ref02_Whole_2_0_h (loopBy ref02_Whole_2_0_p ref02_Whole_2_0_q (ref02_Whole_2_0_rr (ref02_Whole_2_0_L)) other) :=
  loopBy_tie (A := ref02_Whole_2_0_A) ho (loop_tie ref02_Whole_2_0_enc (ref02_Whole_2_0_s ref02_one) (ref02_Whole_2_0_A) (ref02_Whole_2_0_A_zero) (ref02_Whole_2_0_B_ok ref02_one ref02_Whole_2_0_L) (ref02_Whole_2_0_A_succ)) ref02_Whole_2_0_f ref02_Whole_2_0_d ref02_Whole_2_0_e_ok (ref02_Whole_2_0_r_ok)

noncomputable def ref02_Whole_X {R : Type} (ref02_Whole_2_0_L : ref02_Whole_2_0_ty R) (x1 : Str) (k0 : Bool → Option R) : Option R :=
  ref02_Whole_2_0_L (List.length x1 + Int.natAbs 0 + 64) x1 0 (k0 true) (fun y5 => k0 y5)
noncomputable def ref02_Whole {R : Type} : ref02_Whole_ty R := fun x1 k0 => ref02_Whole_X ref02_Whole_2_0_L x1 k0
theorem ref02_Whole_ok {R : Type} (ref02_one : ref02_one_ty R) (ref02_Whole_2_0_L : ref02_Whole_2_0_ty R) (x1 : Str) (k : V → Heap → Option R) : funK tt (ref02_Whole_E R ref02_one) (ref02_Whole_T R ref02_Whole_2_0_L) false Tryd.f25 (codeOf Tryd.f25) [.str x1] [] k =
    ref02_Whole_X ref02_Whole_2_0_L x1 (fun q0 => k (.bool q0) []) := by kernel_rfl
theorem ref02_Whole_loops (R : Type) : ∀ a ∈ loopsOf (codeOf Tryd.f25), LoopOk tt (ref02_Whole_E R ref02_one) (ref02_Whole_T R ref02_Whole_2_0_L) 0 a := by
  refine loops_ok 1 (by kernel_rfl) fun i hi => ?_
  match i, hi with
  | 0, _ => exact loopOk_some (by kernel_rfl) (ref02_Whole_2_0_ok _ loopNo_ok)
  | n + 1, hi => omega
theorem ref02_Whole_S_ok (R : Type) (other : Yard.Spec R) (ho : Yard.Spec.Ok Tryd.prog 25 other) : Yard.Spec.Ok Tryd.prog 25 (specBy ref02_Whole_p ref02_Whole_q (ref02_Whole_rr ref02_Whole) other) :=
  specBy_ok ho (funK_sound TT mixed (ref02_Whole_EOk R) (keep := false) rfl rfl rfl rfl 0 (ref02_Whole_loops R)) fun (x : Pat.dens ref02_Whole_p) (y : HPat.dens ref02_Whole_q) k => ref02_Whole_ok ref02_one ref02_Whole_2_0_L x.1 k

/-! ### humpyard/humpyardref02.hex -/
abbrev ref02_hex_ty (R : Type) : Type := Int → (Int → Option R) → Option R
abbrev ref02_hex_p : List Pat := [.leaf (.int .i64)]
abbrev ref02_hex_q : List HPat := []
noncomputable def ref02_hex_rr {R : Type} (fn : ref02_hex_ty R) : Pat.dens ref02_hex_p → HPat.dens ref02_hex_q → (V → Heap → Option R) → Option R := fun x y k => fn x.1 (fun q0 => k (.int .u8 q0) [])
noncomputable def ref02_hex_E (R : Type) : Env R := fun i => match i with
  | _ => none
theorem ref02_hex_EOk (R : Type) : EOk Tryd.prog (ref02_hex_E R) := by
  intro i b sp h
  unfold ref02_hex_E at h
  split at h
  · cases h

noncomputable def ref02_hex_T (R : Type) : Nat → Option (Hint × LSpec R) := fun i => match i with
  | _ => none

noncomputable def ref02_hex_X {R : Type} (x1 : Int) (k0 : Int → Option R) : Option R :=
  chk (decide ((0 : Int) ≤ (Int.tmod x1 16)) && decide ((Int.tmod x1 16) < (16 : Int))) (k0 ((([48, 49, 50, 51, 52, 53, 54, 55, 56, 57, 97, 98, 99, 100, 101, 102] : Str).getD ((Int.tmod x1 16).toNat) 0).toNat : Int))
noncomputable def ref02_hex {R : Type} : ref02_hex_ty R := fun x1 k0 => ref02_hex_X x1 k0
theorem ref02_hex_ok {R : Type} (x1 : Int) (k : V → Heap → Option R) : funK tt (ref02_hex_E R) (ref02_hex_T R) false Tryd.f44 (codeOf Tryd.f44) [.int .i64 x1] [] k =
    ref02_hex_X x1 (fun q0 => k (.int .u8 q0) []) := by kernel_rfl
theorem ref02_hex_loops (R : Type) : ∀ a ∈ loopsOf (codeOf Tryd.f44), LoopOk tt (ref02_hex_E R) (ref02_hex_T R) 0 a := by
  refine loops_ok 0 (by kernel_rfl) fun i hi => ?_
  omega
theorem ref02_hex_S_ok (R : Type) (other : Yard.Spec R) (ho : Yard.Spec.Ok Tryd.prog 44 other) : Yard.Spec.Ok Tryd.prog 44 (specBy ref02_hex_p ref02_hex_q (ref02_hex_rr ref02_hex) other) :=
  specBy_ok ho (funK_sound TT mixed (ref02_hex_EOk R) (keep := false) rfl rfl rfl rfl 0 (ref02_hex_loops R)) fun (x : Pat.dens ref02_hex_p) (y : HPat.dens ref02_hex_q) k => ref02_hex_ok x.1 k

/-! ### humpyard/humpyardref02.Quote -/
abbrev ref02_Quote_ty (R : Type) : Type := Str → (Str → Bool → Option R) → Option R
abbrev ref02_Quote_p : List Pat := [.leaf (.str)]
abbrev ref02_Quote_q : List HPat := []
noncomputable def ref02_Quote_rr {R : Type} (fn : ref02_Quote_ty R) : Pat.dens ref02_Quote_p → HPat.dens ref02_Quote_q → (V → Heap → Option R) → Option R := fun x y k => fn x.1 (fun q0 q1 => k (.tuple [.str q0, .bool q1]) [])
abbrev ref02_Quote_6_0_ty (R : Type) : Type := Nat → Str → (List Int) → Int → ((List Int) → Option R) → Option R
noncomputable def ref02_Quote_E (R : Type) (ref02_Whole : ref02_Whole_ty R) (ref02_hex : ref02_hex_ty R) : Env R := fun i => match i with
  | 25 => some (true, (specBy ref02_Whole_p ref02_Whole_q (ref02_Whole_rr ref02_Whole) specNo))
  | 44 => some (true, (specBy ref02_hex_p ref02_hex_q (ref02_hex_rr ref02_hex) specNo))
  | _ => none
theorem ref02_Quote_EOk (R : Type) : EOk Tryd.prog (ref02_Quote_E R ref02_Whole ref02_hex) := by
  intro i b sp h
  unfold ref02_Quote_E at h
  split at h
  · cases h; exact ⟨(ref02_Whole_S_ok R _ (specNo_ok _)), fun h => nomatch h⟩
  · cases h; exact ⟨(ref02_hex_S_ok R _ (specNo_ok _)), fun h => nomatch h⟩
  · cases h

noncomputable def ref02_Quote_6_0_B {R : Type} (ref02_hex : ref02_hex_ty R) (rec' : Str → (List Int) → Int → Option R) (x3 : Str) (x4 : List Int) (x5 : Int) (e0 : (List Int) → Option R) : Option R :=
  bif (decide (x5 < (x3.length : Int))) then (chk (decide ((0 : Int) ≤ x5) && decide (x5 < x3.length)) (let j9 := fun (z6 : Bool) => bif z6 then (chk (decide ((x4.length + 2) * 1 ≤ 140737488355328)) (rec' x3 ((x4 : List Int) ++ (([92, ((x3.getD x5.toNat 0).toNat : Int)] : List Int) : List Int)) (IntKind.i64.wrap (x5 + 1)))) else (bif (((x3.getD x5.toNat 0).toNat : Int) == 8) then (chk (decide ((x4.length + 2) * 1 ≤ 140737488355328)) (rec' x3 ((x4 : List Int) ++ (([92, 98] : List Int) : List Int)) (IntKind.i64.wrap (x5 + 1)))) else (bif (((x3.getD x5.toNat 0).toNat : Int) == 9) then (chk (decide ((x4.length + 2) * 1 ≤ 140737488355328)) (rec' x3 ((x4 : List Int) ++ (([92, 116] : List Int) : List Int)) (IntKind.i64.wrap (x5 + 1)))) else (bif (((x3.getD x5.toNat 0).toNat : Int) == 10) then (chk (decide ((x4.length + 2) * 1 ≤ 140737488355328)) (rec' x3 ((x4 : List Int) ++ (([92, 110] : List Int) : List Int)) (IntKind.i64.wrap (x5 + 1)))) else (bif (((x3.getD x5.toNat 0).toNat : Int) == 12) then (chk (decide ((x4.length + 2) * 1 ≤ 140737488355328)) (rec' x3 ((x4 : List Int) ++ (([92, 102] : List Int) : List Int)) (IntKind.i64.wrap (x5 + 1)))) else (bif (((x3.getD x5.toNat 0).toNat : Int) == 13) then (chk (decide ((x4.length + 2) * 1 ≤ 140737488355328)) (rec' x3 ((x4 : List Int) ++ (([92, 114] : List Int) : List Int)) (IntKind.i64.wrap (x5 + 1)))) else (bif (decide (((x3.getD x5.toNat 0).toNat : Int) < (32 : Int))) then (ref02_hex (IntKind.i64.wrap (Int.tdiv (IntKind.i64.wrap ((x3.getD x5.toNat 0).toNat : Int)) 16)) (fun y7 => ref02_hex (IntKind.i64.wrap ((x3.getD x5.toNat 0).toNat : Int)) (fun y8 => chk (decide ((x4.length + 6) * 1 ≤ 140737488355328)) (rec' x3 ((x4 : List Int) ++ (([92, 117, 48, 48, y7, y8] : List Int) : List Int)) (IntKind.i64.wrap (x5 + 1)))))) else (chk (decide ((x4.length + 1) * 1 ≤ 140737488355328)) (rec' x3 ((x4 : List Int) ++ (([((x3.getD x5.toNat 0).toNat : Int)] : List Int) : List Int)) (IntKind.i64.wrap (x5 + 1)))))))))); bif (((x3.getD x5.toNat 0).toNat : Int) == 34) then (j9 true) else (j9 (((x3.getD x5.toNat 0).toNat : Int) == 92)))) else (e0 x4)
noncomputable def ref02_Quote_6_0_L {R : Type} : ref02_Quote_6_0_ty R
  | 0, _, _, _, _ => none
  | n + 1, x0', x1', x2', e0 => ref02_Quote_6_0_B ref02_hex (fun x0' x1' x2' => ref02_Quote_6_0_L n x0' x1' x2' e0) x0' x1' x2' e0
noncomputable def ref02_Quote_6_0_h : Hint := { live := [0, 5, 6], own := [], rows := [], cells := [], drop := [], out := [2, 3, 5] }
abbrev ref02_Quote_6_0_D : Type := Str × (List Int) × Int
noncomputable def ref02_Quote_6_0_enc : ref02_Quote_6_0_D → St := fun d => ⟨[.str d.1, .undef, .undef, .undef, .undef, .sl (.int .u8) d.2.1 (.own 0), .int .i64 d.2.2, .undef, .undef, .undef, .undef, .undef, .undef, .undef, .undef, .undef, .undef, .undef, .undef, .undef, .undef, .undef, .undef, .undef, .undef, .undef, .undef, .undef, .undef, .undef, .undef, .undef, .undef, .undef, .undef, .undef, .undef, .undef, .undef, .undef, .undef, .undef, .undef, .undef, .undef, .undef, .undef, .undef, .undef, .undef, .undef, .undef, .undef, .undef, .undef, .undef, .undef, .undef, .undef, .undef, .undef, .undef, .undef, .undef, .undef, .undef, .undef, .undef, .undef, .undef, .undef, .undef, .undef, .undef, .undef, .undef, .undef, .undef, .undef, .undef, .undef, .undef, .undef, .undef], [.tok]⟩
noncomputable def ref02_Quote_6_0_x0 {R : Type} (K : Ex → St → Option R) (q0 : List Int) : Option R := K (.exit 0) ⟨[.undef, .undef, .undef, .undef, .undef, .sl (.int .u8) q0 (.own 0), .undef, .undef, .undef, .undef, .undef, .undef, .undef, .undef, .undef, .undef, .undef, .undef, .undef, .undef, .undef, .undef, .undef, .undef, .undef, .undef, .undef, .undef, .undef, .undef, .undef, .undef, .undef, .undef, .undef, .undef, .undef, .undef, .undef, .undef, .undef, .undef, .undef, .undef, .undef, .undef, .undef, .undef, .undef, .undef, .undef, .undef, .undef, .undef, .undef, .undef, .undef, .undef, .undef, .undef, .undef, .undef, .undef, .undef, .undef, .undef, .undef, .undef, .undef, .undef, .undef, .undef, .undef, .undef, .undef, .undef, .undef, .undef, .undef, .undef, .undef, .undef, .undef, .undef], [.tok]⟩
noncomputable def ref02_Quote_6_0_s {R : Type} (ref02_hex : ref02_hex_ty R) (K : Ex → St → Option R) (rc : ref02_Quote_6_0_D → Option R) (d : ref02_Quote_6_0_D) : Option R := ref02_Quote_6_0_B ref02_hex (fun z0 z1 z2 => rc (z0, z1, z2)) d.1 d.2.1 d.2.2 (ref02_Quote_6_0_x0 K)
noncomputable def ref02_Quote_6_0_A {R : Type} (K : Ex → St → Option R) (n : Nat) (d : ref02_Quote_6_0_D) : Option R := ref02_Quote_6_0_L n d.1 d.2.1 d.2.2 (ref02_Quote_6_0_x0 K)
abbrev ref02_Quote_6_0_p : List Pat := [.leaf (.str), .leaf (.undef), .leaf (.undef), .leaf (.undef), .leaf (.undef), .leaf (.slo (.int .u8) 0), .leaf (.int .i64), .leaf (.undef), .leaf (.undef), .leaf (.undef), .leaf (.undef), .leaf (.undef), .leaf (.undef), .leaf (.undef), .leaf (.undef), .leaf (.undef), .leaf (.undef), .leaf (.undef), .leaf (.undef), .leaf (.undef), .leaf (.undef), .leaf (.undef), .leaf (.undef), .leaf (.undef), .leaf (.undef), .leaf (.undef), .leaf (.undef), .leaf (.undef), .leaf (.undef), .leaf (.undef), .leaf (.undef), .leaf (.undef), .leaf (.undef), .leaf (.undef), .leaf (.undef), .leaf (.undef), .leaf (.undef), .leaf (.undef), .leaf (.undef), .leaf (.undef), .leaf (.undef), .leaf (.undef), .leaf (.undef), .leaf (.undef), .leaf (.undef), .leaf (.undef), .leaf (.undef), .leaf (.undef), .leaf (.undef), .leaf (.undef), .leaf (.undef), .leaf (.undef), .leaf (.undef), .leaf (.undef), .leaf (.undef), .leaf (.undef), .leaf (.undef), .leaf (.undef), .leaf (.undef), .leaf (.undef), .leaf (.undef), .leaf (.undef), .leaf (.undef), .leaf (.undef), .leaf (.undef), .leaf (.undef), .leaf (.undef), .leaf (.undef), .leaf (.undef), .leaf (.undef), .leaf (.undef), .leaf (.undef), .leaf (.undef), .leaf (.undef), .leaf (.undef), .leaf (.undef), .leaf (.undef), .leaf (.undef), .leaf (.undef), .leaf (.undef), .leaf (.undef), .leaf (.undef), .leaf (.undef), .leaf (.undef)]
abbrev ref02_Quote_6_0_q : List HPat := [.tok]
noncomputable def ref02_Quote_6_0_f (x : Pat.dens ref02_Quote_6_0_p) (y : HPat.dens ref02_Quote_6_0_q) : Nat := (List.length x.1 + List.length x.2.2.2.2.2.1 + Int.natAbs x.2.2.2.2.2.2.1 + 64)
noncomputable def ref02_Quote_6_0_d (x : Pat.dens ref02_Quote_6_0_p) (y : HPat.dens ref02_Quote_6_0_q) : ref02_Quote_6_0_D := (x.1, x.2.2.2.2.2.1, x.2.2.2.2.2.2.1)
noncomputable def ref02_Quote_6_0_rr {R : Type} (L : ref02_Quote_6_0_ty R) : Pat.dens ref02_Quote_6_0_p → HPat.dens ref02_Quote_6_0_q → (Ex → St → Option R) → Option R := fun x y K => L (ref02_Quote_6_0_f x y) x.1 x.2.2.2.2.2.1 x.2.2.2.2.2.2.1 (ref02_Quote_6_0_x0 K)
noncomputable def ref02_Quote_T (R : Type) (ref02_Quote_6_0_L : ref02_Quote_6_0_ty R) : Nat → Option (Hint × LSpec R) := fun i => match i with
  | 6 => some (ref02_Quote_6_0_h, (loopBy ref02_Quote_6_0_p ref02_Quote_6_0_q (ref02_Quote_6_0_rr ref02_Quote_6_0_L) loopNo))
  | _ => none

theorem ref02_Quote_6_0_B_ok {R : Type} (ref02_Whole : ref02_Whole_ty R) (ref02_hex : ref02_hex_ty R) (ref02_Quote_6_0_L : ref02_Quote_6_0_ty R) (K : Ex → St → Option R) (rc : St → Option R) (d : ref02_Quote_6_0_D) : roundOf tt (ref02_Quote_E R ref02_Whole ref02_hex) (ref02_Quote_T R ref02_Quote_6_0_L) 0 ((loopsOf (codeOf Tryd.f19)).getD 0 .skip) ref02_Quote_6_0_h (ref02_Quote_6_0_enc d) rc K = ref02_Quote_6_0_s ref02_hex K (fun d => rc (ref02_Quote_6_0_enc d)) d := by kernel_rfl
theorem ref02_Quote_6_0_A_succ {R : Type} (K : Ex → St → Option R) (n : Nat) (d : ref02_Quote_6_0_D) : ref02_Quote_6_0_A K (n + 1) d = ref02_Quote_6_0_s ref02_hex K (ref02_Quote_6_0_A K n) d := by kernel_rfl
theorem ref02_Quote_6_0_A_zero {R : Type} (K : Ex → St → Option R) (d : ref02_Quote_6_0_D) : ref02_Quote_6_0_A K 0 d = none := by kernel_rfl
theorem ref02_Quote_6_0_e_ok (x : Pat.dens ref02_Quote_6_0_p) (y : HPat.dens ref02_Quote_6_0_q) : (⟨Pat.encL ref02_Quote_6_0_p x, HPat.encL ref02_Quote_6_0_q y⟩ : St) = ref02_Quote_6_0_enc (ref02_Quote_6_0_d x y) := by kernel_rfl
theorem ref02_Quote_6_0_r_ok {R : Type} (x : Pat.dens ref02_Quote_6_0_p) (y : HPat.dens ref02_Quote_6_0_q) (K : Ex → St → Option R) : ref02_Quote_6_0_rr (ref02_Quote_6_0_L) x y K = ref02_Quote_6_0_A K (ref02_Quote_6_0_f x y) (ref02_Quote_6_0_d x y) := by kernel_rfl
theorem ref02_Quote_6_0_ok {R : Type} (other : LSpec R) (ho : LsOk tt (ref02_Quote_E R ref02_Whole ref02_hex) (ref02_Quote_T R ref02_Quote_6_0_L) 0 ((loopsOf (codeOf Tryd.f19)).getD 0 .skip) ref02_Quote_6_0_h other) : LsOk tt (ref02_Quote_E R ref02_Whole ref02_hex) (ref02_Quote_T R ref02_Quote_6_0_L) 0 ((loopsOf (codeOf Tryd.f19)).getD 0 .skip) ref02_Quote_6_0_h (loopBy ref02_Quote_6_0_p ref02_Quote_6_0_q (ref02_Quote_6_0_rr (ref02_Quote_6_0_L)) other) :=
  loopBy_tie (A := ref02_Quote_6_0_A) ho (loop_tie ref02_Quote_6_0_enc (ref02_Quote_6_0_s ref02_hex) (ref02_Quote_6_0_A) (ref02_Quote_6_0_A_zero) (ref02_Quote_6_0_B_ok ref02_Whole ref02_hex ref02_Quote_6_0_L) (ref02_Quote_6_0_A_succ)) ref02_Quote_6_0_f ref02_Quote_6_0_d ref02_Quote_6_0_e_ok (ref02_Quote_6_0_r_ok)

noncomputable def ref02_Quote_X {R : Type} (ref02_Whole : ref02_Whole_ty R) (ref02_Quote_6_0_L : ref02_Quote_6_0_ty R) (x1 : Str) (k0 : Str → Bool → Option R) : Option R :=
  ref02_Whole x1 (fun y2 => bif (!y2) then (k0 ([] : Str) false) else (ref02_Quote_6_0_L (List.length x1 + List.length ([34] : List Int) + Int.natAbs 0 + 64) x1 ([34] : List Int) 0 (fun y11 => chk (decide ((y11.length + 1) * 1 ≤ 140737488355328)) (k0 (List.map (fun n : Int => UInt8.ofNat n.toNat) ((y11 : List Int) ++ (([34] : List Int) : List Int)) : Str) true))))
noncomputable def ref02_Quote {R : Type} : ref02_Quote_ty R := fun x1 k0 => ref02_Quote_X ref02_Whole ref02_Quote_6_0_L x1 k0
theorem ref02_Quote_ok {R : Type} (ref02_Whole : ref02_Whole_ty R) (ref02_hex : ref02_hex_ty R) (ref02_Quote_6_0_L : ref02_Quote_6_0_ty R) (x1 : Str) (k : V → Heap → Option R) : funK tt (ref02_Quote_E R ref02_Whole ref02_hex) (ref02_Quote_T R ref02_Quote_6_0_L) false Tryd.f19 (codeOf Tryd.f19) [.str x1] [] k =
    ref02_Quote_X ref02_Whole ref02_Quote_6_0_L x1 (fun q0 q1 => k (.tuple [.str q0, .bool q1]) []) := by kernel_rfl
theorem ref02_Quote_loops (R : Type) : ∀ a ∈ loopsOf (codeOf Tryd.f19), LoopOk tt (ref02_Quote_E R ref02_Whole ref02_hex) (ref02_Quote_T R ref02_Quote_6_0_L) 0 a := by
  refine loops_ok 1 (by kernel_rfl) fun i hi => ?_
  match i, hi with
  | 0, _ => exact loopOk_some (by kernel_rfl) (ref02_Quote_6_0_ok _ loopNo_ok)
  | n + 1, hi => omega
theorem ref02_Quote_S_ok (R : Type) (other : Yard.Spec R) (ho : Yard.Spec.Ok Tryd.prog 19 other) : Yard.Spec.Ok Tryd.prog 19 (specBy ref02_Quote_p ref02_Quote_q (ref02_Quote_rr ref02_Quote) other) :=
  specBy_ok ho (funK_sound TT mixed (ref02_Quote_EOk R) (keep := false) rfl rfl rfl rfl 0 (ref02_Quote_loops R)) fun (x : Pat.dens ref02_Quote_p) (y : HPat.dens ref02_Quote_q) k => ref02_Quote_ok ref02_Whole ref02_hex ref02_Quote_6_0_L x.1 k

end Go.Proofs.YtifgegmnngfckaaDoor

