/-
  Functions of the program as pure Lean functions, and the ties; printed by wip/tools/emit.py.
-/
import Derived.Test.YtcocpfgemdkkfaaAiTK
set_option maxRecDepth 100000
set_option linter.unusedVariables false
namespace Go.Proofs.Ytcocpfgemdkkfaa
open Go Go.Yard

/-! ### slices.Index[[]string,string] -/
abbrev slices_Index_stringstring_ty (R : Type) : Type := (List Str) → Str → (Int → Option R) → Option R
abbrev slices_Index_stringstring_p : List Pat := [.leaf (.sl .str), .leaf (.str)]
abbrev slices_Index_stringstring_q : List HPat := []
noncomputable def slices_Index_stringstring_rr {R : Type} (fn : slices_Index_stringstring_ty R) : Pat.dens slices_Index_stringstring_p → HPat.dens slices_Index_stringstring_q → (V → Heap → Option R) → Option R := fun x y k => fn x.1 x.2.1 (fun q0 => k (.int .i64 q0) [])
abbrev slices_Index_stringstring_2_0_ty (R : Type) : Type := Nat → (List Str) → Str → Int → Int → (Int → Option R) → (Option R) → Option R
noncomputable def slices_Index_stringstring_E (R : Type) : Env R := fun i => match i with
  | _ => none
theorem slices_Index_stringstring_EOk (R : Type) : EOk Try.prog (slices_Index_stringstring_E R) := by
  intro i b sp h
  unfold slices_Index_stringstring_E at h
  split at h
  · cases h

noncomputable def slices_Index_stringstring_2_0_B {R : Type} (rec' : (List Str) → Str → Int → Int → Option R) (x3 : List Str) (x4 : Str) (x5 : Int) (x6 : Int) (e0 : Int → Option R) (e1 : Option R) : Option R :=
  bif (decide (x6 < x5)) then (chk (decide (0 ≤ x6) && decide (x6 < x3.length)) (bif (x4 == (x3.getD x6.toNat (Ty.dflt .str))) then (e0 x6) else (rec' x3 x4 x5 (IntKind.i64.wrap (x6 + 1))))) else (e1)
noncomputable def slices_Index_stringstring_2_0_L {R : Type} : slices_Index_stringstring_2_0_ty R
  | 0, _, _, _, _, _, _ => none
  | n + 1, x0', x1', x2', x3', e0, e1 => slices_Index_stringstring_2_0_B (fun x0' x1' x2' x3' => slices_Index_stringstring_2_0_L n x0' x1' x2' x3' e0 e1) x0' x1' x2' x3' e0 e1
noncomputable def slices_Index_stringstring_2_0_h : Hint := { live := [0, 1, 7, 8], own := [], rows := [], cells := [], drop := [], out := [4] }
abbrev slices_Index_stringstring_2_0_D : Type := (List Str) × Str × Int × Int
noncomputable def slices_Index_stringstring_2_0_enc : slices_Index_stringstring_2_0_D → St := fun d => ⟨[.sl .str d.1 .no, .str d.2.1, .undef, .undef, .undef, .undef, .undef, .int .i64 d.2.2.1, .int .i64 d.2.2.2, .undef, .undef, .undef, .undef, .undef, .undef, .undef, .undef, .undef, .undef], []⟩
noncomputable def slices_Index_stringstring_2_0_x0 {R : Type} (K : Ex → St → Option R) (q0 : Int) : Option R := K (.ret) ⟨[.undef, .undef, .undef, .undef, .int .i64 q0, .undef, .undef, .undef, .undef, .undef, .undef, .undef, .undef, .undef, .undef, .undef, .undef, .undef, .undef], []⟩
noncomputable def slices_Index_stringstring_2_0_x1 {R : Type} (K : Ex → St → Option R) : Option R := K (.exit 0) ⟨[.undef, .undef, .undef, .undef, .undef, .undef, .undef, .undef, .undef, .undef, .undef, .undef, .undef, .undef, .undef, .undef, .undef, .undef, .undef], []⟩
noncomputable def slices_Index_stringstring_2_0_s {R : Type} (K : Ex → St → Option R) (rc : slices_Index_stringstring_2_0_D → Option R) (d : slices_Index_stringstring_2_0_D) : Option R := slices_Index_stringstring_2_0_B (fun z0 z1 z2 z3 => rc (z0, z1, z2, z3)) d.1 d.2.1 d.2.2.1 d.2.2.2 (slices_Index_stringstring_2_0_x0 K) (slices_Index_stringstring_2_0_x1 K)
noncomputable def slices_Index_stringstring_2_0_A {R : Type} (K : Ex → St → Option R) (n : Nat) (d : slices_Index_stringstring_2_0_D) : Option R := slices_Index_stringstring_2_0_L n d.1 d.2.1 d.2.2.1 d.2.2.2 (slices_Index_stringstring_2_0_x0 K) (slices_Index_stringstring_2_0_x1 K)
abbrev slices_Index_stringstring_2_0_p : List Pat := [.leaf (.sl .str), .leaf (.str), .leaf (.undef), .leaf (.undef), .leaf (.undef), .leaf (.undef), .leaf (.undef), .leaf (.int .i64), .leaf (.int .i64), .leaf (.undef), .leaf (.undef), .leaf (.undef), .leaf (.undef), .leaf (.undef), .leaf (.undef), .leaf (.undef), .leaf (.undef), .leaf (.undef), .leaf (.undef)]
abbrev slices_Index_stringstring_2_0_q : List HPat := []
noncomputable def slices_Index_stringstring_2_0_f (x : Pat.dens slices_Index_stringstring_2_0_p) (y : HPat.dens slices_Index_stringstring_2_0_q) : Nat := (List.length x.1 + List.length x.2.1 + Int.natAbs x.2.2.2.2.2.2.2.1 + Int.natAbs x.2.2.2.2.2.2.2.2.1 + 3)
noncomputable def slices_Index_stringstring_2_0_d (x : Pat.dens slices_Index_stringstring_2_0_p) (y : HPat.dens slices_Index_stringstring_2_0_q) : slices_Index_stringstring_2_0_D := (x.1, x.2.1, x.2.2.2.2.2.2.2.1, x.2.2.2.2.2.2.2.2.1)
noncomputable def slices_Index_stringstring_2_0_rr {R : Type} (L : slices_Index_stringstring_2_0_ty R) : Pat.dens slices_Index_stringstring_2_0_p → HPat.dens slices_Index_stringstring_2_0_q → (Ex → St → Option R) → Option R := fun x y K => L (slices_Index_stringstring_2_0_f x y) x.1 x.2.1 x.2.2.2.2.2.2.2.1 x.2.2.2.2.2.2.2.2.1 (slices_Index_stringstring_2_0_x0 K) (slices_Index_stringstring_2_0_x1 K)
noncomputable def slices_Index_stringstring_T (R : Type) (slices_Index_stringstring_2_0_L : slices_Index_stringstring_2_0_ty R) : Nat → Option (Hint × LSpec R) := fun i => match i with
  | 2 => some (slices_Index_stringstring_2_0_h, (loopBy slices_Index_stringstring_2_0_p slices_Index_stringstring_2_0_q (slices_Index_stringstring_2_0_rr slices_Index_stringstring_2_0_L) loopNo))
  | _ => none

theorem slices_Index_stringstring_2_0_B_ok {R : Type} (slices_Index_stringstring_2_0_L : slices_Index_stringstring_2_0_ty R) (K : Ex → St → Option R) (rc : St → Option R) (d : slices_Index_stringstring_2_0_D) : roundOf tt (slices_Index_stringstring_E R) (slices_Index_stringstring_T R slices_Index_stringstring_2_0_L) 0 ((loopsOf (codeOf Try.f90)).getD 0 .skip) slices_Index_stringstring_2_0_h (slices_Index_stringstring_2_0_enc d) rc K = slices_Index_stringstring_2_0_s K (fun d => rc (slices_Index_stringstring_2_0_enc d)) d := by kernel_rfl
theorem slices_Index_stringstring_2_0_A_succ {R : Type} (K : Ex → St → Option R) (n : Nat) (d : slices_Index_stringstring_2_0_D) : slices_Index_stringstring_2_0_A K (n + 1) d = slices_Index_stringstring_2_0_s K (slices_Index_stringstring_2_0_A K n) d := by kernel_rfl
theorem slices_Index_stringstring_2_0_A_zero {R : Type} (K : Ex → St → Option R) (d : slices_Index_stringstring_2_0_D) : slices_Index_stringstring_2_0_A K 0 d = none := by kernel_rfl
theorem slices_Index_stringstring_2_0_e_ok (x : Pat.dens slices_Index_stringstring_2_0_p) (y : HPat.dens slices_Index_stringstring_2_0_q) : (⟨Pat.encL slices_Index_stringstring_2_0_p x, HPat.encL slices_Index_stringstring_2_0_q y⟩ : St) = slices_Index_stringstring_2_0_enc (slices_Index_stringstring_2_0_d x y) := by kernel_rfl
theorem slices_Index_stringstring_2_0_r_ok {R : Type} (x : Pat.dens slices_Index_stringstring_2_0_p) (y : HPat.dens slices_Index_stringstring_2_0_q) (K : Ex → St → Option R) : slices_Index_stringstring_2_0_rr (slices_Index_stringstring_2_0_L) x y K = slices_Index_stringstring_2_0_A K (slices_Index_stringstring_2_0_f x y) (slices_Index_stringstring_2_0_d x y) := by kernel_rfl
theorem slices_Index_stringstring_2_0_ok {R : Type} (other : LSpec R) (ho : LsOk tt (slices_Index_stringstring_E R) (slices_Index_stringstring_T R slices_Index_stringstring_2_0_L) 0 ((loopsOf (codeOf Try.f90)).getD 0 .skip) slices_Index_stringstring_2_0_h other) : LsOk tt (slices_Index_stringstring_E R) (slices_Index_stringstring_T R slices_Index_stringstring_2_0_L) 0 ((loopsOf (codeOf Try.f90)).getD 0 .skip) slices_Index_stringstring_2_0_h (loopBy slices_Index_stringstring_2_0_p slices_Index_stringstring_2_0_q (slices_Index_stringstring_2_0_rr (slices_Index_stringstring_2_0_L)) other) :=
  loopBy_tie (A := slices_Index_stringstring_2_0_A) ho (loop_tie slices_Index_stringstring_2_0_enc (slices_Index_stringstring_2_0_s) (slices_Index_stringstring_2_0_A) (slices_Index_stringstring_2_0_A_zero) (slices_Index_stringstring_2_0_B_ok slices_Index_stringstring_2_0_L) (slices_Index_stringstring_2_0_A_succ)) slices_Index_stringstring_2_0_f slices_Index_stringstring_2_0_d slices_Index_stringstring_2_0_e_ok (slices_Index_stringstring_2_0_r_ok)

noncomputable def slices_Index_stringstring_X {R : Type} (slices_Index_stringstring_2_0_L : slices_Index_stringstring_2_0_ty R) (x1 : List Str) (x2 : Str) (k0 : Int → Option R) : Option R :=
  slices_Index_stringstring_2_0_L (List.length x1 + List.length x2 + Int.natAbs (x1.length : Int) + Int.natAbs 0 + 3) x1 x2 (x1.length : Int) 0 (fun y7 => k0 y7) (k0 (-1))
noncomputable def slices_Index_stringstring {R : Type} : slices_Index_stringstring_ty R := fun x1 x2 k0 => slices_Index_stringstring_X slices_Index_stringstring_2_0_L x1 x2 k0
theorem slices_Index_stringstring_ok {R : Type} (slices_Index_stringstring_2_0_L : slices_Index_stringstring_2_0_ty R) (x1 : List Str) (x2 : Str) (k : V → Heap → Option R) : funK tt (slices_Index_stringstring_E R) (slices_Index_stringstring_T R slices_Index_stringstring_2_0_L) false Try.f90 (codeOf Try.f90) [.sl .str x1 .no, .str x2] [] k =
    slices_Index_stringstring_X slices_Index_stringstring_2_0_L x1 x2 (fun q0 => k (.int .i64 q0) []) := by kernel_rfl
theorem slices_Index_stringstring_loops (R : Type) : ∀ a ∈ loopsOf (codeOf Try.f90), LoopOk tt (slices_Index_stringstring_E R) (slices_Index_stringstring_T R slices_Index_stringstring_2_0_L) 0 a := by
  refine loops_ok 1 (by kernel_rfl) fun i hi => ?_
  match i, hi with
  | 0, _ => exact loopOk_some (by kernel_rfl) (slices_Index_stringstring_2_0_ok _ loopNo_ok)
  | n + 1, hi => omega
theorem slices_Index_stringstring_S_ok (R : Type) (other : Yard.Spec R) (ho : Yard.Spec.Ok Try.prog 90 other) : Yard.Spec.Ok Try.prog 90 (specBy slices_Index_stringstring_p slices_Index_stringstring_q (slices_Index_stringstring_rr slices_Index_stringstring) other) :=
  specBy_ok ho (funK_sound TT mixed (slices_Index_stringstring_EOk R) (keep := false) rfl rfl rfl rfl 0 (slices_Index_stringstring_loops R)) fun (x : Pat.dens slices_Index_stringstring_p) (y : HPat.dens slices_Index_stringstring_q) k => slices_Index_stringstring_ok slices_Index_stringstring_2_0_L x.1 x.2.1 k

/-! ### humpyard/field.find -/
abbrev field_find_ty (R : Type) : Type := Json → Str → (Json → Bool → Option R) → Option R
abbrev field_find_p : List Pat := [.agg [.int .i64, .int .i64, .int .i64, .str, .sl .str, .sl .json], .leaf (.str)]
abbrev field_find_q : List HPat := []
noncomputable def field_find_rr {R : Type} (fn : field_find_ty R) : Pat.dens field_find_p → HPat.dens field_find_q → (V → Heap → Option R) → Option R := fun x y k => fn (⟨x.1.1, ⟨x.1.2.1, x.1.2.2.1⟩, x.1.2.2.2.1, x.1.2.2.2.2.1, x.1.2.2.2.2.2.1⟩ : Json) x.2.1 (fun q0 q1 => k (.tuple [.agg [.int .i64 q0.kind, .int .i64 q0.num.mant, .int .i64 q0.num.exp, .str q0.text, .sl .str q0.names .no, .sl .json q0.items .no], .bool q1]) [])
noncomputable def field_find_E (R : Type) (slices_Index_stringstring : slices_Index_stringstring_ty R) : Env R := fun i => match i with
  | 90 => some (true, (specBy slices_Index_stringstring_p slices_Index_stringstring_q (slices_Index_stringstring_rr slices_Index_stringstring) specNo))
  | _ => none
theorem field_find_EOk (R : Type) : EOk Try.prog (field_find_E R slices_Index_stringstring) := by
  intro i b sp h
  unfold field_find_E at h
  split at h
  · cases h; exact (slices_Index_stringstring_S_ok R _ (specNo_ok _))
  · cases h

noncomputable def field_find_T (R : Type) : Nat → Option (Hint × LSpec R) := fun i => match i with
  | _ => none

noncomputable def field_find_X {R : Type} (slices_Index_stringstring : slices_Index_stringstring_ty R) (x1 : Json) (x2 : Str) (k0 : Json → Bool → Option R) : Option R :=
  slices_Index_stringstring x1.names x2 (fun y3 => bif (x1.kind != 7) then (k0 (⟨0, ⟨0, 0⟩, ([] : Str), ([] : List Str), ([] : List Json)⟩ : Json) false) else (bif (decide (y3 < 0)) then (k0 (⟨0, ⟨0, 0⟩, ([] : Str), ([] : List Str), ([] : List Json)⟩ : Json) false) else (bif (decide (y3 ≥ (x1.items.length : Int))) then (k0 (⟨0, ⟨0, 0⟩, ([] : Str), ([] : List Str), ([] : List Json)⟩ : Json) false) else (chk (decide (0 ≤ y3) && decide (y3 < x1.items.length)) (k0 (⟨(x1.items.getD y3.toNat (Ty.dflt .json)).kind, ⟨(x1.items.getD y3.toNat (Ty.dflt .json)).num.mant, (x1.items.getD y3.toNat (Ty.dflt .json)).num.exp⟩, (x1.items.getD y3.toNat (Ty.dflt .json)).text, (x1.items.getD y3.toNat (Ty.dflt .json)).names, (x1.items.getD y3.toNat (Ty.dflt .json)).items⟩ : Json) true)))))
noncomputable def field_find {R : Type} : field_find_ty R := fun x1 x2 k0 => field_find_X slices_Index_stringstring x1 x2 k0
theorem field_find_ok {R : Type} (slices_Index_stringstring : slices_Index_stringstring_ty R) (x1 : Json) (x2 : Str) (k : V → Heap → Option R) : funK tt (field_find_E R slices_Index_stringstring) (field_find_T R) false Try.f68 (codeOf Try.f68) [.agg [.int .i64 x1.kind, .int .i64 x1.num.mant, .int .i64 x1.num.exp, .str x1.text, .sl .str x1.names .no, .sl .json x1.items .no], .str x2] [] k =
    field_find_X slices_Index_stringstring x1 x2 (fun q0 q1 => k (.tuple [.agg [.int .i64 q0.kind, .int .i64 q0.num.mant, .int .i64 q0.num.exp, .str q0.text, .sl .str q0.names .no, .sl .json q0.items .no], .bool q1]) []) := by kernel_rfl
theorem field_find_loops (R : Type) : ∀ a ∈ loopsOf (codeOf Try.f68), LoopOk tt (field_find_E R slices_Index_stringstring) (field_find_T R) 0 a := by
  refine loops_ok 0 (by kernel_rfl) fun i hi => ?_
  omega
theorem field_find_S_ok (R : Type) (other : Yard.Spec R) (ho : Yard.Spec.Ok Try.prog 68 other) : Yard.Spec.Ok Try.prog 68 (specBy field_find_p field_find_q (field_find_rr field_find) other) :=
  specBy_ok ho (funK_sound TT mixed (field_find_EOk R) (keep := false) rfl rfl rfl rfl 0 (field_find_loops R)) fun (x : Pat.dens field_find_p) (y : HPat.dens field_find_q) k => field_find_ok slices_Index_stringstring (⟨x.1.1, ⟨x.1.2.1, x.1.2.2.1⟩, x.1.2.2.2.1, x.1.2.2.2.2.1, x.1.2.2.2.2.2.1⟩ : Json) x.2.1 k

/-! ### humpyard/decimal.within[int] -/
abbrev decimal_within_int_ty (R : Type) : Type := Int → Int → Int → (Bool → Option R) → Option R
abbrev decimal_within_int_p : List Pat := [.leaf (.int .i64), .leaf (.int .i64), .leaf (.int .i64)]
abbrev decimal_within_int_q : List HPat := []
noncomputable def decimal_within_int_rr {R : Type} (fn : decimal_within_int_ty R) : Pat.dens decimal_within_int_p → HPat.dens decimal_within_int_q → (V → Heap → Option R) → Option R := fun x y k => fn x.1 x.2.1 x.2.2.1 (fun q0 => k (.bool q0) [])
noncomputable def decimal_within_int_E (R : Type) : Env R := fun i => match i with
  | _ => none
theorem decimal_within_int_EOk (R : Type) : EOk Try.prog (decimal_within_int_E R) := by
  intro i b sp h
  unfold decimal_within_int_E at h
  split at h
  · cases h

noncomputable def decimal_within_int_T (R : Type) : Nat → Option (Hint × LSpec R) := fun i => match i with
  | _ => none

noncomputable def decimal_within_int_X {R : Type} (x1 : Int) (x2 : Int) (x3 : Int) (k0 : Bool → Option R) : Option R :=
  bif (decide (x1 ≤ x2)) then (k0 (decide (x2 ≤ x3))) else (k0 false)
noncomputable def decimal_within_int {R : Type} : decimal_within_int_ty R := fun x1 x2 x3 k0 => decimal_within_int_X x1 x2 x3 k0
theorem decimal_within_int_ok {R : Type} (x1 : Int) (x2 : Int) (x3 : Int) (k : V → Heap → Option R) : funK tt (decimal_within_int_E R) (decimal_within_int_T R) false Try.f95 (codeOf Try.f95) [.int .i64 x1, .int .i64 x2, .int .i64 x3] [] k =
    decimal_within_int_X x1 x2 x3 (fun q0 => k (.bool q0) []) := by kernel_rfl
theorem decimal_within_int_loops (R : Type) : ∀ a ∈ loopsOf (codeOf Try.f95), LoopOk tt (decimal_within_int_E R) (decimal_within_int_T R) 0 a := by
  refine loops_ok 0 (by kernel_rfl) fun i hi => ?_
  omega
theorem decimal_within_int_S_ok (R : Type) (other : Yard.Spec R) (ho : Yard.Spec.Ok Try.prog 95 other) : Yard.Spec.Ok Try.prog 95 (specBy decimal_within_int_p decimal_within_int_q (decimal_within_int_rr decimal_within_int) other) :=
  specBy_ok ho (funK_sound TT mixed (decimal_within_int_EOk R) (keep := false) rfl rfl rfl rfl 0 (decimal_within_int_loops R)) fun (x : Pat.dens decimal_within_int_p) (y : HPat.dens decimal_within_int_q) k => decimal_within_int_ok x.1 x.2.1 x.2.2.1 k

/-! ### humpyard/decimal.Right -/
abbrev decimal_Right_ty (R : Type) : Type := Dcm → (Bool → Option R) → Option R
abbrev decimal_Right_p : List Pat := [.agg [.int .i64, .int .i64]]
abbrev decimal_Right_q : List HPat := []
noncomputable def decimal_Right_rr {R : Type} (fn : decimal_Right_ty R) : Pat.dens decimal_Right_p → HPat.dens decimal_Right_q → (V → Heap → Option R) → Option R := fun x y k => fn (⟨x.1.1, x.1.2.1⟩ : Dcm) (fun q0 => k (.bool q0) [])
noncomputable def decimal_Right_E (R : Type) (decimal_within_int : decimal_within_int_ty R) : Env R := fun i => match i with
  | 95 => some (true, (specBy decimal_within_int_p decimal_within_int_q (decimal_within_int_rr decimal_within_int) specNo))
  | _ => none
theorem decimal_Right_EOk (R : Type) : EOk Try.prog (decimal_Right_E R decimal_within_int) := by
  intro i b sp h
  unfold decimal_Right_E at h
  split at h
  · cases h; exact (decimal_within_int_S_ok R _ (specNo_ok _))
  · cases h

noncomputable def decimal_Right_T (R : Type) : Nat → Option (Hint × LSpec R) := fun i => match i with
  | _ => none

noncomputable def decimal_Right_X {R : Type} (decimal_within_int : decimal_within_int_ty R) (x1 : Dcm) (k0 : Bool → Option R) : Option R :=
  bif (x1.mant == 0) then (k0 (x1.exp == 0)) else (bif ((Int.tmod x1.mant 10) != 0) then (decimal_within_int (-1000000000000000) x1.mant 1000000000000000 (fun y2 => bif y2 then (decimal_within_int (-9) x1.exp 9 (fun y3 => k0 y3)) else (k0 false))) else (k0 false))
noncomputable def decimal_Right {R : Type} : decimal_Right_ty R := fun x1 k0 => decimal_Right_X decimal_within_int x1 k0
theorem decimal_Right_ok {R : Type} (decimal_within_int : decimal_within_int_ty R) (x1 : Dcm) (k : V → Heap → Option R) : funK tt (decimal_Right_E R decimal_within_int) (decimal_Right_T R) false Try.f98 (codeOf Try.f98) [.agg [.int .i64 x1.mant, .int .i64 x1.exp]] [] k =
    decimal_Right_X decimal_within_int x1 (fun q0 => k (.bool q0) []) := by kernel_rfl
theorem decimal_Right_loops (R : Type) : ∀ a ∈ loopsOf (codeOf Try.f98), LoopOk tt (decimal_Right_E R decimal_within_int) (decimal_Right_T R) 0 a := by
  refine loops_ok 0 (by kernel_rfl) fun i hi => ?_
  omega
theorem decimal_Right_S_ok (R : Type) (other : Yard.Spec R) (ho : Yard.Spec.Ok Try.prog 98 other) : Yard.Spec.Ok Try.prog 98 (specBy decimal_Right_p decimal_Right_q (decimal_Right_rr decimal_Right) other) :=
  specBy_ok ho (funK_sound TT mixed (decimal_Right_EOk R) (keep := false) rfl rfl rfl rfl 0 (decimal_Right_loops R)) fun (x : Pat.dens decimal_Right_p) (y : HPat.dens decimal_Right_q) k => decimal_Right_ok decimal_within_int (⟨x.1.1, x.1.2.1⟩ : Dcm) k

/-! ### humpyard/decimal.shifted -/
abbrev decimal_shifted_ty (R : Type) : Type := Dcm → Int → (Int → Bool → Option R) → Option R
abbrev decimal_shifted_p : List Pat := [.agg [.int .i64, .int .i64], .leaf (.int .i64)]
abbrev decimal_shifted_q : List HPat := []
noncomputable def decimal_shifted_rr {R : Type} (fn : decimal_shifted_ty R) : Pat.dens decimal_shifted_p → HPat.dens decimal_shifted_q → (V → Heap → Option R) → Option R := fun x y k => fn (⟨x.1.1, x.1.2.1⟩ : Dcm) x.2.1 (fun q0 q1 => k (.tuple [.int .i64 q0, .bool q1]) [])
abbrev decimal_shifted_3_0_ty (R : Type) : Type := Nat → Int → Int → Int → (Int → Bool → Int → Option R) → (Int → Option R) → Option R
noncomputable def decimal_shifted_E (R : Type) (decimal_within_int : decimal_within_int_ty R) : Env R := fun i => match i with
  | 95 => some (true, (specBy decimal_within_int_p decimal_within_int_q (decimal_within_int_rr decimal_within_int) specNo))
  | _ => none
theorem decimal_shifted_EOk (R : Type) : EOk Try.prog (decimal_shifted_E R decimal_within_int) := by
  intro i b sp h
  unfold decimal_shifted_E at h
  split at h
  · cases h; exact (decimal_within_int_S_ok R _ (specNo_ok _))
  · cases h

noncomputable def decimal_shifted_3_0_B {R : Type} (decimal_within_int : decimal_within_int_ty R) (rec' : Int → Int → Int → Option R) (x3 : Int) (x4 : Int) (x5 : Int) (e0 : Int → Bool → Int → Option R) (e1 : Int → Option R) : Option R :=
  bif (decide (x5 < x4)) then (decimal_within_int (-100000000000000000) x3 100000000000000000 (fun y6 => bif (!y6) then (e0 0 false x3) else (rec' (IntKind.i64.wrap (x3 * 10)) x4 (IntKind.i64.wrap (x5 + 1))))) else (e1 x3)
noncomputable def decimal_shifted_3_0_L {R : Type} : decimal_shifted_3_0_ty R
  | 0, _, _, _, _, _ => none
  | n + 1, x0', x1', x2', e0, e1 => decimal_shifted_3_0_B decimal_within_int (fun x0' x1' x2' => decimal_shifted_3_0_L n x0' x1' x2' e0 e1) x0' x1' x2' e0 e1
noncomputable def decimal_shifted_3_0_h : Hint := { live := [6, 12, 13], own := [], rows := [], cells := [], drop := [], out := [4, 5, 6] }
abbrev decimal_shifted_3_0_D : Type := Int × Int × Int
noncomputable def decimal_shifted_3_0_enc : decimal_shifted_3_0_D → St := fun d => ⟨[.undef, .undef, .undef, .undef, .undef, .undef, .int .i64 d.1, .undef, .undef, .undef, .undef, .undef, .int .i64 d.2.1, .int .i64 d.2.2, .undef, .undef, .undef, .undef, .undef, .undef, .undef, .undef], []⟩
noncomputable def decimal_shifted_3_0_x0 {R : Type} (K : Ex → St → Option R) (q0 : Int) (q1 : Bool) (q2 : Int) : Option R := K (.ret) ⟨[.undef, .undef, .undef, .undef, .int .i64 q0, .bool q1, .int .i64 q2, .undef, .undef, .undef, .undef, .undef, .undef, .undef, .undef, .undef, .undef, .undef, .undef, .undef, .undef, .undef], []⟩
noncomputable def decimal_shifted_3_0_x1 {R : Type} (K : Ex → St → Option R) (q0 : Int) : Option R := K (.exit 0) ⟨[.undef, .undef, .undef, .undef, .undef, .undef, .int .i64 q0, .undef, .undef, .undef, .undef, .undef, .undef, .undef, .undef, .undef, .undef, .undef, .undef, .undef, .undef, .undef], []⟩
noncomputable def decimal_shifted_3_0_s {R : Type} (decimal_within_int : decimal_within_int_ty R) (K : Ex → St → Option R) (rc : decimal_shifted_3_0_D → Option R) (d : decimal_shifted_3_0_D) : Option R := decimal_shifted_3_0_B decimal_within_int (fun z0 z1 z2 => rc (z0, z1, z2)) d.1 d.2.1 d.2.2 (decimal_shifted_3_0_x0 K) (decimal_shifted_3_0_x1 K)
noncomputable def decimal_shifted_3_0_A {R : Type} (K : Ex → St → Option R) (n : Nat) (d : decimal_shifted_3_0_D) : Option R := decimal_shifted_3_0_L n d.1 d.2.1 d.2.2 (decimal_shifted_3_0_x0 K) (decimal_shifted_3_0_x1 K)
abbrev decimal_shifted_3_0_p : List Pat := [.leaf (.undef), .leaf (.undef), .leaf (.undef), .leaf (.undef), .leaf (.undef), .leaf (.undef), .leaf (.int .i64), .leaf (.undef), .leaf (.undef), .leaf (.undef), .leaf (.undef), .leaf (.undef), .leaf (.int .i64), .leaf (.int .i64), .leaf (.undef), .leaf (.undef), .leaf (.undef), .leaf (.undef), .leaf (.undef), .leaf (.undef), .leaf (.undef), .leaf (.undef)]
abbrev decimal_shifted_3_0_q : List HPat := []
noncomputable def decimal_shifted_3_0_f (x : Pat.dens decimal_shifted_3_0_p) (y : HPat.dens decimal_shifted_3_0_q) : Nat := (Int.natAbs x.2.2.2.2.2.2.1 + Int.natAbs x.2.2.2.2.2.2.2.2.2.2.2.2.1 + Int.natAbs x.2.2.2.2.2.2.2.2.2.2.2.2.2.1 + 3)
noncomputable def decimal_shifted_3_0_d (x : Pat.dens decimal_shifted_3_0_p) (y : HPat.dens decimal_shifted_3_0_q) : decimal_shifted_3_0_D := (x.2.2.2.2.2.2.1, x.2.2.2.2.2.2.2.2.2.2.2.2.1, x.2.2.2.2.2.2.2.2.2.2.2.2.2.1)
noncomputable def decimal_shifted_3_0_rr {R : Type} (L : decimal_shifted_3_0_ty R) : Pat.dens decimal_shifted_3_0_p → HPat.dens decimal_shifted_3_0_q → (Ex → St → Option R) → Option R := fun x y K => L (decimal_shifted_3_0_f x y) x.2.2.2.2.2.2.1 x.2.2.2.2.2.2.2.2.2.2.2.2.1 x.2.2.2.2.2.2.2.2.2.2.2.2.2.1 (decimal_shifted_3_0_x0 K) (decimal_shifted_3_0_x1 K)
noncomputable def decimal_shifted_T (R : Type) (decimal_shifted_3_0_L : decimal_shifted_3_0_ty R) : Nat → Option (Hint × LSpec R) := fun i => match i with
  | 3 => some (decimal_shifted_3_0_h, (loopBy decimal_shifted_3_0_p decimal_shifted_3_0_q (decimal_shifted_3_0_rr decimal_shifted_3_0_L) loopNo))
  | _ => none

theorem decimal_shifted_3_0_B_ok {R : Type} (decimal_within_int : decimal_within_int_ty R) (decimal_shifted_3_0_L : decimal_shifted_3_0_ty R) (K : Ex → St → Option R) (rc : St → Option R) (d : decimal_shifted_3_0_D) : roundOf tt (decimal_shifted_E R decimal_within_int) (decimal_shifted_T R decimal_shifted_3_0_L) 0 ((loopsOf (codeOf Try.f99)).getD 0 .skip) decimal_shifted_3_0_h (decimal_shifted_3_0_enc d) rc K = decimal_shifted_3_0_s decimal_within_int K (fun d => rc (decimal_shifted_3_0_enc d)) d := by kernel_rfl
theorem decimal_shifted_3_0_A_succ {R : Type} (K : Ex → St → Option R) (n : Nat) (d : decimal_shifted_3_0_D) : decimal_shifted_3_0_A K (n + 1) d = decimal_shifted_3_0_s decimal_within_int K (decimal_shifted_3_0_A K n) d := by kernel_rfl
theorem decimal_shifted_3_0_A_zero {R : Type} (K : Ex → St → Option R) (d : decimal_shifted_3_0_D) : decimal_shifted_3_0_A K 0 d = none := by kernel_rfl
theorem decimal_shifted_3_0_e_ok (x : Pat.dens decimal_shifted_3_0_p) (y : HPat.dens decimal_shifted_3_0_q) : (⟨Pat.encL decimal_shifted_3_0_p x, HPat.encL decimal_shifted_3_0_q y⟩ : St) = decimal_shifted_3_0_enc (decimal_shifted_3_0_d x y) := by kernel_rfl
theorem decimal_shifted_3_0_r_ok {R : Type} (x : Pat.dens decimal_shifted_3_0_p) (y : HPat.dens decimal_shifted_3_0_q) (K : Ex → St → Option R) : decimal_shifted_3_0_rr (decimal_shifted_3_0_L) x y K = decimal_shifted_3_0_A K (decimal_shifted_3_0_f x y) (decimal_shifted_3_0_d x y) := by kernel_rfl
theorem decimal_shifted_3_0_ok {R : Type} (other : LSpec R) (ho : LsOk tt (decimal_shifted_E R decimal_within_int) (decimal_shifted_T R decimal_shifted_3_0_L) 0 ((loopsOf (codeOf Try.f99)).getD 0 .skip) decimal_shifted_3_0_h other) : LsOk tt (decimal_shifted_E R decimal_within_int) (decimal_shifted_T R decimal_shifted_3_0_L) 0 ((loopsOf (codeOf Try.f99)).getD 0 .skip) decimal_shifted_3_0_h (loopBy decimal_shifted_3_0_p decimal_shifted_3_0_q (decimal_shifted_3_0_rr (decimal_shifted_3_0_L)) other) :=
  loopBy_tie (A := decimal_shifted_3_0_A) ho (loop_tie decimal_shifted_3_0_enc (decimal_shifted_3_0_s decimal_within_int) (decimal_shifted_3_0_A) (decimal_shifted_3_0_A_zero) (decimal_shifted_3_0_B_ok decimal_within_int decimal_shifted_3_0_L) (decimal_shifted_3_0_A_succ)) decimal_shifted_3_0_f decimal_shifted_3_0_d decimal_shifted_3_0_e_ok (decimal_shifted_3_0_r_ok)

noncomputable def decimal_shifted_X {R : Type} (decimal_shifted_3_0_L : decimal_shifted_3_0_ty R) (x1 : Dcm) (x2 : Int) (k0 : Int → Bool → Option R) : Option R :=
  decimal_shifted_3_0_L (Int.natAbs x1.mant + Int.natAbs (IntKind.i64.wrap (x1.exp - x2)) + Int.natAbs 0 + 3) x1.mant (IntKind.i64.wrap (x1.exp - x2)) 0 (fun y7 y8 y9 => k0 y7 y8) (fun y10 => k0 y10 true)
noncomputable def decimal_shifted {R : Type} : decimal_shifted_ty R := fun x1 x2 k0 => decimal_shifted_X decimal_shifted_3_0_L x1 x2 k0
theorem decimal_shifted_ok {R : Type} (decimal_within_int : decimal_within_int_ty R) (decimal_shifted_3_0_L : decimal_shifted_3_0_ty R) (x1 : Dcm) (x2 : Int) (k : V → Heap → Option R) : funK tt (decimal_shifted_E R decimal_within_int) (decimal_shifted_T R decimal_shifted_3_0_L) false Try.f99 (codeOf Try.f99) [.agg [.int .i64 x1.mant, .int .i64 x1.exp], .int .i64 x2] [] k =
    decimal_shifted_X decimal_shifted_3_0_L x1 x2 (fun q0 q1 => k (.tuple [.int .i64 q0, .bool q1]) []) := by kernel_rfl
theorem decimal_shifted_loops (R : Type) : ∀ a ∈ loopsOf (codeOf Try.f99), LoopOk tt (decimal_shifted_E R decimal_within_int) (decimal_shifted_T R decimal_shifted_3_0_L) 0 a := by
  refine loops_ok 1 (by kernel_rfl) fun i hi => ?_
  match i, hi with
  | 0, _ => exact loopOk_some (by kernel_rfl) (decimal_shifted_3_0_ok _ loopNo_ok)
  | n + 1, hi => omega
theorem decimal_shifted_S_ok (R : Type) (other : Yard.Spec R) (ho : Yard.Spec.Ok Try.prog 99 other) : Yard.Spec.Ok Try.prog 99 (specBy decimal_shifted_p decimal_shifted_q (decimal_shifted_rr decimal_shifted) other) :=
  specBy_ok ho (funK_sound TT mixed (decimal_shifted_EOk R) (keep := false) rfl rfl rfl rfl 0 (decimal_shifted_loops R)) fun (x : Pat.dens decimal_shifted_p) (y : HPat.dens decimal_shifted_q) k => decimal_shifted_ok decimal_within_int decimal_shifted_3_0_L (⟨x.1.1, x.1.2.1⟩ : Dcm) x.2.1 k

/-! ### humpyard/decimal.Int -/
abbrev decimal_Int_ty (R : Type) : Type := Dcm → (Int → Bool → Option R) → Option R
abbrev decimal_Int_p : List Pat := [.agg [.int .i64, .int .i64]]
abbrev decimal_Int_q : List HPat := []
noncomputable def decimal_Int_rr {R : Type} (fn : decimal_Int_ty R) : Pat.dens decimal_Int_p → HPat.dens decimal_Int_q → (V → Heap → Option R) → Option R := fun x y k => fn (⟨x.1.1, x.1.2.1⟩ : Dcm) (fun q0 q1 => k (.tuple [.int .i64 q0, .bool q1]) [])
noncomputable def decimal_Int_E (R : Type) (decimal_Right : decimal_Right_ty R) (decimal_shifted : decimal_shifted_ty R) : Env R := fun i => match i with
  | 98 => some (true, (specBy decimal_Right_p decimal_Right_q (decimal_Right_rr decimal_Right) specNo))
  | 99 => some (true, (specBy decimal_shifted_p decimal_shifted_q (decimal_shifted_rr decimal_shifted) specNo))
  | _ => none
theorem decimal_Int_EOk (R : Type) : EOk Try.prog (decimal_Int_E R decimal_Right decimal_shifted) := by
  intro i b sp h
  unfold decimal_Int_E at h
  split at h
  · cases h; exact (decimal_Right_S_ok R _ (specNo_ok _))
  · cases h; exact (decimal_shifted_S_ok R _ (specNo_ok _))
  · cases h

noncomputable def decimal_Int_T (R : Type) : Nat → Option (Hint × LSpec R) := fun i => match i with
  | _ => none

noncomputable def decimal_Int_X {R : Type} (decimal_Right : decimal_Right_ty R) (decimal_shifted : decimal_shifted_ty R) (x1 : Dcm) (k0 : Int → Bool → Option R) : Option R :=
  decimal_Right x1 (fun y2 => bif (!y2) then (k0 0 false) else (bif (decide (x1.exp < 0)) then (k0 0 false) else (decimal_shifted x1 0 (fun y3 y4 => k0 y3 y4))))
noncomputable def decimal_Int {R : Type} : decimal_Int_ty R := fun x1 k0 => decimal_Int_X decimal_Right decimal_shifted x1 k0
theorem decimal_Int_ok {R : Type} (decimal_Right : decimal_Right_ty R) (decimal_shifted : decimal_shifted_ty R) (x1 : Dcm) (k : V → Heap → Option R) : funK tt (decimal_Int_E R decimal_Right decimal_shifted) (decimal_Int_T R) false Try.f93 (codeOf Try.f93) [.agg [.int .i64 x1.mant, .int .i64 x1.exp]] [] k =
    decimal_Int_X decimal_Right decimal_shifted x1 (fun q0 q1 => k (.tuple [.int .i64 q0, .bool q1]) []) := by kernel_rfl
theorem decimal_Int_loops (R : Type) : ∀ a ∈ loopsOf (codeOf Try.f93), LoopOk tt (decimal_Int_E R decimal_Right decimal_shifted) (decimal_Int_T R) 0 a := by
  refine loops_ok 0 (by kernel_rfl) fun i hi => ?_
  omega
theorem decimal_Int_S_ok (R : Type) (other : Yard.Spec R) (ho : Yard.Spec.Ok Try.prog 93 other) : Yard.Spec.Ok Try.prog 93 (specBy decimal_Int_p decimal_Int_q (decimal_Int_rr decimal_Int) other) :=
  specBy_ok ho (funK_sound TT mixed (decimal_Int_EOk R) (keep := false) rfl rfl rfl rfl 0 (decimal_Int_loops R)) fun (x : Pat.dens decimal_Int_p) (y : HPat.dens decimal_Int_q) k => decimal_Int_ok decimal_Right decimal_shifted (⟨x.1.1, x.1.2.1⟩ : Dcm) k

/-! ### humpyard/field.num -/
abbrev field_num_ty (R : Type) : Type := Json → (Int → Bool → Option R) → Option R
abbrev field_num_p : List Pat := [.agg [.int .i64, .int .i64, .int .i64, .str, .sl .str, .sl .json]]
abbrev field_num_q : List HPat := []
noncomputable def field_num_rr {R : Type} (fn : field_num_ty R) : Pat.dens field_num_p → HPat.dens field_num_q → (V → Heap → Option R) → Option R := fun x y k => fn (⟨x.1.1, ⟨x.1.2.1, x.1.2.2.1⟩, x.1.2.2.2.1, x.1.2.2.2.2.1, x.1.2.2.2.2.2.1⟩ : Json) (fun q0 q1 => k (.tuple [.int .i64 q0, .bool q1]) [])
noncomputable def field_num_E (R : Type) (decimal_Int : decimal_Int_ty R) : Env R := fun i => match i with
  | 93 => some (true, (specBy decimal_Int_p decimal_Int_q (decimal_Int_rr decimal_Int) specNo))
  | _ => none
theorem field_num_EOk (R : Type) : EOk Try.prog (field_num_E R decimal_Int) := by
  intro i b sp h
  unfold field_num_E at h
  split at h
  · cases h; exact (decimal_Int_S_ok R _ (specNo_ok _))
  · cases h

noncomputable def field_num_T (R : Type) : Nat → Option (Hint × LSpec R) := fun i => match i with
  | _ => none

noncomputable def field_num_X {R : Type} (decimal_Int : decimal_Int_ty R) (x1 : Json) (k0 : Int → Bool → Option R) : Option R :=
  decimal_Int x1.num (fun y2 y3 => bif y3 then (k0 y2 (x1.kind == 4)) else (k0 y2 false))
noncomputable def field_num {R : Type} : field_num_ty R := fun x1 k0 => field_num_X decimal_Int x1 k0
theorem field_num_ok {R : Type} (decimal_Int : decimal_Int_ty R) (x1 : Json) (k : V → Heap → Option R) : funK tt (field_num_E R decimal_Int) (field_num_T R) false Try.f73 (codeOf Try.f73) [.agg [.int .i64 x1.kind, .int .i64 x1.num.mant, .int .i64 x1.num.exp, .str x1.text, .sl .str x1.names .no, .sl .json x1.items .no]] [] k =
    field_num_X decimal_Int x1 (fun q0 q1 => k (.tuple [.int .i64 q0, .bool q1]) []) := by kernel_rfl
theorem field_num_loops (R : Type) : ∀ a ∈ loopsOf (codeOf Try.f73), LoopOk tt (field_num_E R decimal_Int) (field_num_T R) 0 a := by
  refine loops_ok 0 (by kernel_rfl) fun i hi => ?_
  omega
theorem field_num_S_ok (R : Type) (other : Yard.Spec R) (ho : Yard.Spec.Ok Try.prog 73 other) : Yard.Spec.Ok Try.prog 73 (specBy field_num_p field_num_q (field_num_rr field_num) other) :=
  specBy_ok ho (funK_sound TT mixed (field_num_EOk R) (keep := false) rfl rfl rfl rfl 0 (field_num_loops R)) fun (x : Pat.dens field_num_p) (y : HPat.dens field_num_q) k => field_num_ok decimal_Int (⟨x.1.1, ⟨x.1.2.1, x.1.2.2.1⟩, x.1.2.2.2.1, x.1.2.2.2.2.1, x.1.2.2.2.2.2.1⟩ : Json) k

/-! ### humpyard/field.of[int] -/
abbrev field_of_int_b5fb_ty (R : Type) : Type := Json → Str → (Int → Bool → Option R) → Option R
abbrev field_of_int_b5fb_p : List Pat := [.agg [.int .i64, .int .i64, .int .i64, .str, .sl .str, .sl .json], .leaf (.str), .leaf (.fn 73)]
abbrev field_of_int_b5fb_q : List HPat := []
noncomputable def field_of_int_b5fb_rr {R : Type} (fn : field_of_int_b5fb_ty R) : Pat.dens field_of_int_b5fb_p → HPat.dens field_of_int_b5fb_q → (V → Heap → Option R) → Option R := fun x y k => fn (⟨x.1.1, ⟨x.1.2.1, x.1.2.2.1⟩, x.1.2.2.2.1, x.1.2.2.2.2.1, x.1.2.2.2.2.2.1⟩ : Json) x.2.1 (fun q0 q1 => k (.tuple [.int .i64 q0, .bool q1]) [])
noncomputable def field_of_int_b5fb_E (R : Type) (field_find : field_find_ty R) (field_num : field_num_ty R) : Env R := fun i => match i with
  | 68 => some (true, (specBy field_find_p field_find_q (field_find_rr field_find) specNo))
  | 73 => some (true, (specBy field_num_p field_num_q (field_num_rr field_num) specNo))
  | _ => none
theorem field_of_int_b5fb_EOk (R : Type) : EOk Try.prog (field_of_int_b5fb_E R field_find field_num) := by
  intro i b sp h
  unfold field_of_int_b5fb_E at h
  split at h
  · cases h; exact (field_find_S_ok R _ (specNo_ok _))
  · cases h; exact (field_num_S_ok R _ (specNo_ok _))
  · cases h

noncomputable def field_of_int_b5fb_T (R : Type) : Nat → Option (Hint × LSpec R) := fun i => match i with
  | _ => none

noncomputable def field_of_int_b5fb_X {R : Type} (field_find : field_find_ty R) (field_num : field_num_ty R) (x1 : Json) (x2 : Str) (k0 : Int → Bool → Option R) : Option R :=
  field_find (⟨x1.kind, ⟨x1.num.mant, x1.num.exp⟩, x1.text, x1.names, x1.items⟩ : Json) x2 (fun y3 y4 => bif (!y4) then (k0 0 false) else (field_num (⟨y3.kind, ⟨y3.num.mant, y3.num.exp⟩, y3.text, y3.names, y3.items⟩ : Json) (fun y5 y6 => bif y6 then (k0 y5 true) else (k0 0 false))))
noncomputable def field_of_int_b5fb {R : Type} : field_of_int_b5fb_ty R := fun x1 x2 k0 => field_of_int_b5fb_X field_find field_num x1 x2 k0
theorem field_of_int_b5fb_ok {R : Type} (field_find : field_find_ty R) (field_num : field_num_ty R) (x1 : Json) (x2 : Str) (k : V → Heap → Option R) : funK tt (field_of_int_b5fb_E R field_find field_num) (field_of_int_b5fb_T R) false Try.f72 (codeOf Try.f72) [.agg [.int .i64 x1.kind, .int .i64 x1.num.mant, .int .i64 x1.num.exp, .str x1.text, .sl .str x1.names .no, .sl .json x1.items .no], .str x2, .func 73 [] []] [] k =
    field_of_int_b5fb_X field_find field_num x1 x2 (fun q0 q1 => k (.tuple [.int .i64 q0, .bool q1]) []) := by kernel_rfl
theorem field_of_int_b5fb_loops (R : Type) : ∀ a ∈ loopsOf (codeOf Try.f72), LoopOk tt (field_of_int_b5fb_E R field_find field_num) (field_of_int_b5fb_T R) 0 a := by
  refine loops_ok 0 (by kernel_rfl) fun i hi => ?_
  omega
theorem field_of_int_b5fb_S_ok (R : Type) (other : Yard.Spec R) (ho : Yard.Spec.Ok Try.prog 72 other) : Yard.Spec.Ok Try.prog 72 (specBy field_of_int_b5fb_p field_of_int_b5fb_q (field_of_int_b5fb_rr field_of_int_b5fb) other) :=
  specBy_ok ho (funK_sound TT mixed (field_of_int_b5fb_EOk R) (keep := false) rfl rfl rfl rfl 0 (field_of_int_b5fb_loops R)) fun (x : Pat.dens field_of_int_b5fb_p) (y : HPat.dens field_of_int_b5fb_q) k => field_of_int_b5fb_ok field_find field_num (⟨x.1.1, ⟨x.1.2.1, x.1.2.2.1⟩, x.1.2.2.2.1, x.1.2.2.2.2.1, x.1.2.2.2.2.2.1⟩ : Json) x.2.1 k

/-! ### humpyard/field.Num -/
abbrev field_Num_ty (R : Type) : Type := Json → Str → (Int → Bool → Option R) → Option R
abbrev field_Num_p : List Pat := [.agg [.int .i64, .int .i64, .int .i64, .str, .sl .str, .sl .json], .leaf (.str)]
abbrev field_Num_q : List HPat := []
noncomputable def field_Num_rr {R : Type} (fn : field_Num_ty R) : Pat.dens field_Num_p → HPat.dens field_Num_q → (V → Heap → Option R) → Option R := fun x y k => fn (⟨x.1.1, ⟨x.1.2.1, x.1.2.2.1⟩, x.1.2.2.2.1, x.1.2.2.2.2.1, x.1.2.2.2.2.2.1⟩ : Json) x.2.1 (fun q0 q1 => k (.tuple [.int .i64 q0, .bool q1]) [])
noncomputable def field_Num_E (R : Type) (field_of_int_b5fb : field_of_int_b5fb_ty R) : Env R := fun i => match i with
  | 72 => some (true, (specBy field_of_int_b5fb_p field_of_int_b5fb_q (field_of_int_b5fb_rr field_of_int_b5fb) specNo))
  | _ => none
theorem field_Num_EOk (R : Type) : EOk Try.prog (field_Num_E R field_of_int_b5fb) := by
  intro i b sp h
  unfold field_Num_E at h
  split at h
  · cases h; exact (field_of_int_b5fb_S_ok R _ (specNo_ok _))
  · cases h

noncomputable def field_Num_T (R : Type) : Nat → Option (Hint × LSpec R) := fun i => match i with
  | _ => none

noncomputable def field_Num_X {R : Type} (field_of_int_b5fb : field_of_int_b5fb_ty R) (x1 : Json) (x2 : Str) (k0 : Int → Bool → Option R) : Option R :=
  field_of_int_b5fb (⟨x1.kind, ⟨x1.num.mant, x1.num.exp⟩, x1.text, x1.names, x1.items⟩ : Json) x2 (fun y3 y4 => k0 y3 y4)
noncomputable def field_Num {R : Type} : field_Num_ty R := fun x1 x2 k0 => field_Num_X field_of_int_b5fb x1 x2 k0
theorem field_Num_ok {R : Type} (field_of_int_b5fb : field_of_int_b5fb_ty R) (x1 : Json) (x2 : Str) (k : V → Heap → Option R) : funK tt (field_Num_E R field_of_int_b5fb) (field_Num_T R) false Try.f28 (codeOf Try.f28) [.agg [.int .i64 x1.kind, .int .i64 x1.num.mant, .int .i64 x1.num.exp, .str x1.text, .sl .str x1.names .no, .sl .json x1.items .no], .str x2] [] k =
    field_Num_X field_of_int_b5fb x1 x2 (fun q0 q1 => k (.tuple [.int .i64 q0, .bool q1]) []) := by kernel_rfl
theorem field_Num_loops (R : Type) : ∀ a ∈ loopsOf (codeOf Try.f28), LoopOk tt (field_Num_E R field_of_int_b5fb) (field_Num_T R) 0 a := by
  refine loops_ok 0 (by kernel_rfl) fun i hi => ?_
  omega
theorem field_Num_S_ok (R : Type) (other : Yard.Spec R) (ho : Yard.Spec.Ok Try.prog 28 other) : Yard.Spec.Ok Try.prog 28 (specBy field_Num_p field_Num_q (field_Num_rr field_Num) other) :=
  specBy_ok ho (funK_sound TT mixed (field_Num_EOk R) (keep := false) rfl rfl rfl rfl 0 (field_Num_loops R)) fun (x : Pat.dens field_Num_p) (y : HPat.dens field_Num_q) k => field_Num_ok field_of_int_b5fb (⟨x.1.1, ⟨x.1.2.1, x.1.2.2.1⟩, x.1.2.2.2.1, x.1.2.2.2.2.1, x.1.2.2.2.2.2.1⟩ : Json) x.2.1 k

/-! ### humpyard/field.Text$1 -/
abbrev field_Text_1_ty (R : Type) : Type := Json → (Str → Bool → Option R) → Option R
abbrev field_Text_1_p : List Pat := [.agg [.int .i64, .int .i64, .int .i64, .str, .sl .str, .sl .json]]
abbrev field_Text_1_q : List HPat := []
noncomputable def field_Text_1_rr {R : Type} (fn : field_Text_1_ty R) : Pat.dens field_Text_1_p → HPat.dens field_Text_1_q → (V → Heap → Option R) → Option R := fun x y k => fn (⟨x.1.1, ⟨x.1.2.1, x.1.2.2.1⟩, x.1.2.2.2.1, x.1.2.2.2.2.1, x.1.2.2.2.2.2.1⟩ : Json) (fun q0 q1 => k (.tuple [.str q0, .bool q1]) [])
noncomputable def field_Text_1_E (R : Type) : Env R := fun i => match i with
  | _ => none
theorem field_Text_1_EOk (R : Type) : EOk Try.prog (field_Text_1_E R) := by
  intro i b sp h
  unfold field_Text_1_E at h
  split at h
  · cases h

noncomputable def field_Text_1_T (R : Type) : Nat → Option (Hint × LSpec R) := fun i => match i with
  | _ => none

noncomputable def field_Text_1_X {R : Type} (x1 : Json) (k0 : Str → Bool → Option R) : Option R :=
  k0 x1.text (x1.kind == 5)
noncomputable def field_Text_1 {R : Type} : field_Text_1_ty R := fun x1 k0 => field_Text_1_X x1 k0
theorem field_Text_1_ok {R : Type} (x1 : Json) (k : V → Heap → Option R) : funK tt (field_Text_1_E R) (field_Text_1_T R) false Try.f75 (codeOf Try.f75) [.agg [.int .i64 x1.kind, .int .i64 x1.num.mant, .int .i64 x1.num.exp, .str x1.text, .sl .str x1.names .no, .sl .json x1.items .no]] [] k =
    field_Text_1_X x1 (fun q0 q1 => k (.tuple [.str q0, .bool q1]) []) := by kernel_rfl
theorem field_Text_1_loops (R : Type) : ∀ a ∈ loopsOf (codeOf Try.f75), LoopOk tt (field_Text_1_E R) (field_Text_1_T R) 0 a := by
  refine loops_ok 0 (by kernel_rfl) fun i hi => ?_
  omega
theorem field_Text_1_S_ok (R : Type) (other : Yard.Spec R) (ho : Yard.Spec.Ok Try.prog 75 other) : Yard.Spec.Ok Try.prog 75 (specBy field_Text_1_p field_Text_1_q (field_Text_1_rr field_Text_1) other) :=
  specBy_ok ho (funK_sound TT mixed (field_Text_1_EOk R) (keep := false) rfl rfl rfl rfl 0 (field_Text_1_loops R)) fun (x : Pat.dens field_Text_1_p) (y : HPat.dens field_Text_1_q) k => field_Text_1_ok (⟨x.1.1, ⟨x.1.2.1, x.1.2.2.1⟩, x.1.2.2.2.1, x.1.2.2.2.2.1, x.1.2.2.2.2.2.1⟩ : Json) k

/-! ### humpyard/field.of[string] -/
abbrev field_of_string_d6f4_ty (R : Type) : Type := Json → Str → (Str → Bool → Option R) → Option R
abbrev field_of_string_d6f4_p : List Pat := [.agg [.int .i64, .int .i64, .int .i64, .str, .sl .str, .sl .json], .leaf (.str), .leaf (.fn 75)]
abbrev field_of_string_d6f4_q : List HPat := []
noncomputable def field_of_string_d6f4_rr {R : Type} (fn : field_of_string_d6f4_ty R) : Pat.dens field_of_string_d6f4_p → HPat.dens field_of_string_d6f4_q → (V → Heap → Option R) → Option R := fun x y k => fn (⟨x.1.1, ⟨x.1.2.1, x.1.2.2.1⟩, x.1.2.2.2.1, x.1.2.2.2.2.1, x.1.2.2.2.2.2.1⟩ : Json) x.2.1 (fun q0 q1 => k (.tuple [.str q0, .bool q1]) [])
noncomputable def field_of_string_d6f4_E (R : Type) (field_find : field_find_ty R) (field_Text_1 : field_Text_1_ty R) : Env R := fun i => match i with
  | 68 => some (true, (specBy field_find_p field_find_q (field_find_rr field_find) specNo))
  | 75 => some (true, (specBy field_Text_1_p field_Text_1_q (field_Text_1_rr field_Text_1) specNo))
  | _ => none
theorem field_of_string_d6f4_EOk (R : Type) : EOk Try.prog (field_of_string_d6f4_E R field_find field_Text_1) := by
  intro i b sp h
  unfold field_of_string_d6f4_E at h
  split at h
  · cases h; exact (field_find_S_ok R _ (specNo_ok _))
  · cases h; exact (field_Text_1_S_ok R _ (specNo_ok _))
  · cases h

noncomputable def field_of_string_d6f4_T (R : Type) : Nat → Option (Hint × LSpec R) := fun i => match i with
  | _ => none

noncomputable def field_of_string_d6f4_X {R : Type} (field_find : field_find_ty R) (field_Text_1 : field_Text_1_ty R) (x1 : Json) (x2 : Str) (k0 : Str → Bool → Option R) : Option R :=
  field_find (⟨x1.kind, ⟨x1.num.mant, x1.num.exp⟩, x1.text, x1.names, x1.items⟩ : Json) x2 (fun y3 y4 => bif (!y4) then (k0 ([] : Str) false) else (field_Text_1 (⟨y3.kind, ⟨y3.num.mant, y3.num.exp⟩, y3.text, y3.names, y3.items⟩ : Json) (fun y5 y6 => bif y6 then (k0 y5 true) else (k0 ([] : Str) false))))
noncomputable def field_of_string_d6f4 {R : Type} : field_of_string_d6f4_ty R := fun x1 x2 k0 => field_of_string_d6f4_X field_find field_Text_1 x1 x2 k0
theorem field_of_string_d6f4_ok {R : Type} (field_find : field_find_ty R) (field_Text_1 : field_Text_1_ty R) (x1 : Json) (x2 : Str) (k : V → Heap → Option R) : funK tt (field_of_string_d6f4_E R field_find field_Text_1) (field_of_string_d6f4_T R) false Try.f74 (codeOf Try.f74) [.agg [.int .i64 x1.kind, .int .i64 x1.num.mant, .int .i64 x1.num.exp, .str x1.text, .sl .str x1.names .no, .sl .json x1.items .no], .str x2, .func 75 [] []] [] k =
    field_of_string_d6f4_X field_find field_Text_1 x1 x2 (fun q0 q1 => k (.tuple [.str q0, .bool q1]) []) := by kernel_rfl
theorem field_of_string_d6f4_loops (R : Type) : ∀ a ∈ loopsOf (codeOf Try.f74), LoopOk tt (field_of_string_d6f4_E R field_find field_Text_1) (field_of_string_d6f4_T R) 0 a := by
  refine loops_ok 0 (by kernel_rfl) fun i hi => ?_
  omega
theorem field_of_string_d6f4_S_ok (R : Type) (other : Yard.Spec R) (ho : Yard.Spec.Ok Try.prog 74 other) : Yard.Spec.Ok Try.prog 74 (specBy field_of_string_d6f4_p field_of_string_d6f4_q (field_of_string_d6f4_rr field_of_string_d6f4) other) :=
  specBy_ok ho (funK_sound TT mixed (field_of_string_d6f4_EOk R) (keep := false) rfl rfl rfl rfl 0 (field_of_string_d6f4_loops R)) fun (x : Pat.dens field_of_string_d6f4_p) (y : HPat.dens field_of_string_d6f4_q) k => field_of_string_d6f4_ok field_find field_Text_1 (⟨x.1.1, ⟨x.1.2.1, x.1.2.2.1⟩, x.1.2.2.2.1, x.1.2.2.2.2.1, x.1.2.2.2.2.2.1⟩ : Json) x.2.1 k

/-! ### humpyard/field.Text -/
abbrev field_Text_ty (R : Type) : Type := Json → Str → (Str → Bool → Option R) → Option R
abbrev field_Text_p : List Pat := [.agg [.int .i64, .int .i64, .int .i64, .str, .sl .str, .sl .json], .leaf (.str)]
abbrev field_Text_q : List HPat := []
noncomputable def field_Text_rr {R : Type} (fn : field_Text_ty R) : Pat.dens field_Text_p → HPat.dens field_Text_q → (V → Heap → Option R) → Option R := fun x y k => fn (⟨x.1.1, ⟨x.1.2.1, x.1.2.2.1⟩, x.1.2.2.2.1, x.1.2.2.2.2.1, x.1.2.2.2.2.2.1⟩ : Json) x.2.1 (fun q0 q1 => k (.tuple [.str q0, .bool q1]) [])
noncomputable def field_Text_E (R : Type) (field_of_string_d6f4 : field_of_string_d6f4_ty R) : Env R := fun i => match i with
  | 74 => some (true, (specBy field_of_string_d6f4_p field_of_string_d6f4_q (field_of_string_d6f4_rr field_of_string_d6f4) specNo))
  | _ => none
theorem field_Text_EOk (R : Type) : EOk Try.prog (field_Text_E R field_of_string_d6f4) := by
  intro i b sp h
  unfold field_Text_E at h
  split at h
  · cases h; exact (field_of_string_d6f4_S_ok R _ (specNo_ok _))
  · cases h

noncomputable def field_Text_T (R : Type) : Nat → Option (Hint × LSpec R) := fun i => match i with
  | _ => none

noncomputable def field_Text_X {R : Type} (field_of_string_d6f4 : field_of_string_d6f4_ty R) (x1 : Json) (x2 : Str) (k0 : Str → Bool → Option R) : Option R :=
  field_of_string_d6f4 (⟨x1.kind, ⟨x1.num.mant, x1.num.exp⟩, x1.text, x1.names, x1.items⟩ : Json) x2 (fun y3 y4 => k0 y3 y4)
noncomputable def field_Text {R : Type} : field_Text_ty R := fun x1 x2 k0 => field_Text_X field_of_string_d6f4 x1 x2 k0
theorem field_Text_ok {R : Type} (field_of_string_d6f4 : field_of_string_d6f4_ty R) (x1 : Json) (x2 : Str) (k : V → Heap → Option R) : funK tt (field_Text_E R field_of_string_d6f4) (field_Text_T R) false Try.f29 (codeOf Try.f29) [.agg [.int .i64 x1.kind, .int .i64 x1.num.mant, .int .i64 x1.num.exp, .str x1.text, .sl .str x1.names .no, .sl .json x1.items .no], .str x2] [] k =
    field_Text_X field_of_string_d6f4 x1 x2 (fun q0 q1 => k (.tuple [.str q0, .bool q1]) []) := by kernel_rfl
theorem field_Text_loops (R : Type) : ∀ a ∈ loopsOf (codeOf Try.f29), LoopOk tt (field_Text_E R field_of_string_d6f4) (field_Text_T R) 0 a := by
  refine loops_ok 0 (by kernel_rfl) fun i hi => ?_
  omega
theorem field_Text_S_ok (R : Type) (other : Yard.Spec R) (ho : Yard.Spec.Ok Try.prog 29 other) : Yard.Spec.Ok Try.prog 29 (specBy field_Text_p field_Text_q (field_Text_rr field_Text) other) :=
  specBy_ok ho (funK_sound TT mixed (field_Text_EOk R) (keep := false) rfl rfl rfl rfl 0 (field_Text_loops R)) fun (x : Pat.dens field_Text_p) (y : HPat.dens field_Text_q) k => field_Text_ok field_of_string_d6f4 (⟨x.1.1, ⟨x.1.2.1, x.1.2.2.1⟩, x.1.2.2.2.1, x.1.2.2.2.2.1, x.1.2.2.2.2.2.1⟩ : Json) x.2.1 k

/-! ### humpyard/field.flag -/
abbrev field_flag_ty (R : Type) : Type := Json → (Bool → Bool → Option R) → Option R
abbrev field_flag_p : List Pat := [.agg [.int .i64, .int .i64, .int .i64, .str, .sl .str, .sl .json]]
abbrev field_flag_q : List HPat := []
noncomputable def field_flag_rr {R : Type} (fn : field_flag_ty R) : Pat.dens field_flag_p → HPat.dens field_flag_q → (V → Heap → Option R) → Option R := fun x y k => fn (⟨x.1.1, ⟨x.1.2.1, x.1.2.2.1⟩, x.1.2.2.2.1, x.1.2.2.2.2.1, x.1.2.2.2.2.2.1⟩ : Json) (fun q0 q1 => k (.tuple [.bool q0, .bool q1]) [])
noncomputable def field_flag_E (R : Type) : Env R := fun i => match i with
  | _ => none
theorem field_flag_EOk (R : Type) : EOk Try.prog (field_flag_E R) := by
  intro i b sp h
  unfold field_flag_E at h
  split at h
  · cases h

noncomputable def field_flag_T (R : Type) : Nat → Option (Hint × LSpec R) := fun i => match i with
  | _ => none

noncomputable def field_flag_X {R : Type} (x1 : Json) (k0 : Bool → Bool → Option R) : Option R :=
  bif (x1.kind == 3) then (k0 (x1.kind == 3) true) else (k0 (x1.kind == 3) (x1.kind == 2))
noncomputable def field_flag {R : Type} : field_flag_ty R := fun x1 k0 => field_flag_X x1 k0
theorem field_flag_ok {R : Type} (x1 : Json) (k : V → Heap → Option R) : funK tt (field_flag_E R) (field_flag_T R) false Try.f77 (codeOf Try.f77) [.agg [.int .i64 x1.kind, .int .i64 x1.num.mant, .int .i64 x1.num.exp, .str x1.text, .sl .str x1.names .no, .sl .json x1.items .no]] [] k =
    field_flag_X x1 (fun q0 q1 => k (.tuple [.bool q0, .bool q1]) []) := by kernel_rfl
theorem field_flag_loops (R : Type) : ∀ a ∈ loopsOf (codeOf Try.f77), LoopOk tt (field_flag_E R) (field_flag_T R) 0 a := by
  refine loops_ok 0 (by kernel_rfl) fun i hi => ?_
  omega
theorem field_flag_S_ok (R : Type) (other : Yard.Spec R) (ho : Yard.Spec.Ok Try.prog 77 other) : Yard.Spec.Ok Try.prog 77 (specBy field_flag_p field_flag_q (field_flag_rr field_flag) other) :=
  specBy_ok ho (funK_sound TT mixed (field_flag_EOk R) (keep := false) rfl rfl rfl rfl 0 (field_flag_loops R)) fun (x : Pat.dens field_flag_p) (y : HPat.dens field_flag_q) k => field_flag_ok (⟨x.1.1, ⟨x.1.2.1, x.1.2.2.1⟩, x.1.2.2.2.1, x.1.2.2.2.2.1, x.1.2.2.2.2.2.1⟩ : Json) k

/-! ### humpyard/field.fits -/
abbrev field_fits_ty (R : Type) : Type := Json → Fld → (Bool → Option R) → Option R
abbrev field_fits_p : List Pat := [.agg [.int .i64, .int .i64, .int .i64, .str, .sl .str, .sl .json], .agg [.str, .int .i64, .int .i64, .int .i64, .bool]]
abbrev field_fits_q : List HPat := []
noncomputable def field_fits_rr {R : Type} (fn : field_fits_ty R) : Pat.dens field_fits_p → HPat.dens field_fits_q → (V → Heap → Option R) → Option R := fun x y k => fn (⟨x.1.1, ⟨x.1.2.1, x.1.2.2.1⟩, x.1.2.2.2.1, x.1.2.2.2.2.1, x.1.2.2.2.2.2.1⟩ : Json) (⟨x.2.1.1, x.2.1.2.1, x.2.1.2.2.1, x.2.1.2.2.2.1, x.2.1.2.2.2.2.1⟩ : Fld) (fun q0 => k (.bool q0) [])
noncomputable def field_fits_E (R : Type) (field_num : field_num_ty R) (field_flag : field_flag_ty R) : Env R := fun i => match i with
  | 73 => some (true, (specBy field_num_p field_num_q (field_num_rr field_num) specNo))
  | 77 => some (true, (specBy field_flag_p field_flag_q (field_flag_rr field_flag) specNo))
  | _ => none
theorem field_fits_EOk (R : Type) : EOk Try.prog (field_fits_E R field_num field_flag) := by
  intro i b sp h
  unfold field_fits_E at h
  split at h
  · cases h; exact (field_num_S_ok R _ (specNo_ok _))
  · cases h; exact (field_flag_S_ok R _ (specNo_ok _))
  · cases h

noncomputable def field_fits_T (R : Type) : Nat → Option (Hint × LSpec R) := fun i => match i with
  | _ => none

noncomputable def field_fits_X {R : Type} (field_num : field_num_ty R) (field_flag : field_flag_ty R) (x1 : Json) (x2 : Fld) (k0 : Bool → Option R) : Option R :=
  bif (x2.kind == 8) then (field_flag (⟨x1.kind, ⟨x1.num.mant, x1.num.exp⟩, x1.text, x1.names, x1.items⟩ : Json) (fun y3 y4 => k0 y4)) else (bif (x2.kind == 4) then (field_num (⟨x1.kind, ⟨x1.num.mant, x1.num.exp⟩, x1.text, x1.names, x1.items⟩ : Json) (fun y5 y6 => bif y6 then (bif (decide (y5 ≥ x2.low)) then (k0 (decide (y5 ≤ x2.high))) else (k0 false)) else (k0 false))) else (bif (x2.kind == 5) then (bif (x1.kind == x2.kind) then (bif (decide ((x1.text.length : Int) ≥ x2.low)) then (k0 (decide ((x1.text.length : Int) ≤ x2.high))) else (k0 false)) else (k0 false)) else (bif (x2.kind == 6) then (bif (x1.kind == x2.kind) then (bif (decide ((x1.items.length : Int) ≥ x2.low)) then (k0 (decide ((x1.items.length : Int) ≤ x2.high))) else (k0 false)) else (k0 false)) else (k0 (x1.kind == x2.kind)))))
noncomputable def field_fits {R : Type} : field_fits_ty R := fun x1 x2 k0 => field_fits_X field_num field_flag x1 x2 k0
theorem field_fits_ok {R : Type} (field_num : field_num_ty R) (field_flag : field_flag_ty R) (x1 : Json) (x2 : Fld) (k : V → Heap → Option R) : funK tt (field_fits_E R field_num field_flag) (field_fits_T R) false Try.f69 (codeOf Try.f69) [.agg [.int .i64 x1.kind, .int .i64 x1.num.mant, .int .i64 x1.num.exp, .str x1.text, .sl .str x1.names .no, .sl .json x1.items .no], .agg [.str x2.name, .int .i64 x2.kind, .int .i64 x2.low, .int .i64 x2.high, .bool x2.free]] [] k =
    field_fits_X field_num field_flag x1 x2 (fun q0 => k (.bool q0) []) := by kernel_rfl
theorem field_fits_loops (R : Type) : ∀ a ∈ loopsOf (codeOf Try.f69), LoopOk tt (field_fits_E R field_num field_flag) (field_fits_T R) 0 a := by
  refine loops_ok 0 (by kernel_rfl) fun i hi => ?_
  omega
theorem field_fits_S_ok (R : Type) (other : Yard.Spec R) (ho : Yard.Spec.Ok Try.prog 69 other) : Yard.Spec.Ok Try.prog 69 (specBy field_fits_p field_fits_q (field_fits_rr field_fits) other) :=
  specBy_ok ho (funK_sound TT mixed (field_fits_EOk R) (keep := false) rfl rfl rfl rfl 0 (field_fits_loops R)) fun (x : Pat.dens field_fits_p) (y : HPat.dens field_fits_q) k => field_fits_ok field_num field_flag (⟨x.1.1, ⟨x.1.2.1, x.1.2.2.1⟩, x.1.2.2.2.1, x.1.2.2.2.2.1, x.1.2.2.2.2.2.1⟩ : Json) (⟨x.2.1.1, x.2.1.2.1, x.2.1.2.2.1, x.2.1.2.2.2.1, x.2.1.2.2.2.2.1⟩ : Fld) k

end Go.Proofs.Ytcocpfgemdkkfaa
