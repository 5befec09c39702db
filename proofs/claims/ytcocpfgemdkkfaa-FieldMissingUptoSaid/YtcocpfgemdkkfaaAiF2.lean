/-
  Functions of the program as pure Lean functions, and the ties; printed by wip/tools/emit.py.
-/
import Derived.Test.YtcocpfgemdkkfaaAiF1
set_option maxRecDepth 100000
set_option linter.unusedVariables false
namespace Go.Proofs.Ytcocpfgemdkkfaa
open Go Go.Yard

/-! ### humpyard/field.Check -/
abbrev field_Check_ty (R : Type) : Type := Json → (List Fld) → (Int → Option R) → Option R
abbrev field_Check_p : List Pat := [.agg [.int .i64, .int .i64, .int .i64, .str, .sl .str, .sl .json], .leaf (.sl .fld)]
abbrev field_Check_q : List HPat := []
noncomputable def field_Check_rr {R : Type} (fn : field_Check_ty R) : Pat.dens field_Check_p → HPat.dens field_Check_q → (V → Heap → Option R) → Option R := fun x y k => fn (⟨x.1.1, ⟨x.1.2.1, x.1.2.2.1⟩, x.1.2.2.2.1, x.1.2.2.2.2.1, x.1.2.2.2.2.2.1⟩ : Json) x.2.1 (fun q0 => k (.int .i64 q0) [])
abbrev field_Check_2_0_ty (R : Type) : Type := Nat → (List Fld) → Int → Int → Json → (Int → Option R) → (Option R) → Option R
noncomputable def field_Check_E (R : Type) (field_find : field_find_ty R) (field_fits : field_fits_ty R) : Env R := fun i => match i with
  | 68 => some (true, (specBy field_find_p field_find_q (field_find_rr field_find) specNo))
  | 69 => some (true, (specBy field_fits_p field_fits_q (field_fits_rr field_fits) specNo))
  | _ => none
theorem field_Check_EOk (R : Type) : EOk Try.prog (field_Check_E R field_find field_fits) := by
  intro i b sp h
  unfold field_Check_E at h
  split at h
  · cases h; exact (field_find_S_ok R _ (specNo_ok _))
  · cases h; exact (field_fits_S_ok R _ (specNo_ok _))
  · cases h

noncomputable def field_Check_2_0_B {R : Type} (field_find : field_find_ty R) (field_fits : field_fits_ty R) (rec' : (List Fld) → Int → Int → Json → Option R) (x3 : List Fld) (x4 : Int) (x5 : Int) (x6 : Json) (e0 : Int → Option R) (e1 : Option R) : Option R :=
  bif (decide (x5 < x4)) then (chk (decide (0 ≤ x5) && decide (x5 < x3.length)) (field_find (⟨x6.kind, ⟨x6.num.mant, x6.num.exp⟩, x6.text, x6.names, x6.items⟩ : Json) ((x3.getD x5.toNat (Ty.dflt .fld)).name) (fun y7 y8 => bif (x6.kind != 7) then (e0 x5) else (bif (!y8) then (bif (!(x3.getD x5.toNat (Ty.dflt .fld)).free) then (e0 x5) else (bif y8 then (field_fits (⟨y7.kind, ⟨y7.num.mant, y7.num.exp⟩, y7.text, y7.names, y7.items⟩ : Json) (x3.getD x5.toNat (Ty.dflt .fld)) (fun y9 => bif (!y9) then (e0 x5) else (rec' x3 x4 (IntKind.i64.wrap (x5 + 1)) (⟨x6.kind, ⟨x6.num.mant, x6.num.exp⟩, x6.text, x6.names, x6.items⟩ : Json)))) else (rec' x3 x4 (IntKind.i64.wrap (x5 + 1)) (⟨x6.kind, ⟨x6.num.mant, x6.num.exp⟩, x6.text, x6.names, x6.items⟩ : Json)))) else (bif y8 then (field_fits (⟨y7.kind, ⟨y7.num.mant, y7.num.exp⟩, y7.text, y7.names, y7.items⟩ : Json) (x3.getD x5.toNat (Ty.dflt .fld)) (fun y10 => bif (!y10) then (e0 x5) else (rec' x3 x4 (IntKind.i64.wrap (x5 + 1)) (⟨x6.kind, ⟨x6.num.mant, x6.num.exp⟩, x6.text, x6.names, x6.items⟩ : Json)))) else (rec' x3 x4 (IntKind.i64.wrap (x5 + 1)) (⟨x6.kind, ⟨x6.num.mant, x6.num.exp⟩, x6.text, x6.names, x6.items⟩ : Json))))))) else (e1)
noncomputable def field_Check_2_0_L {R : Type} : field_Check_2_0_ty R
  | 0, _, _, _, _, _, _ => none
  | n + 1, x0', x1', x2', x3', e0, e1 => field_Check_2_0_B field_find field_fits (fun x0' x1' x2' x3' => field_Check_2_0_L n x0' x1' x2' x3' e0 e1) x0' x1' x2' x3' e0 e1
noncomputable def field_Check_2_0_h : Hint := { live := [2, 9, 10, 11], own := [], rows := [], cells := [], drop := [], out := [4] }
abbrev field_Check_2_0_D : Type := (List Fld) × Int × Int × Json
noncomputable def field_Check_2_0_enc : field_Check_2_0_D → St := fun d => ⟨[.undef, .undef, .ptr 0 0, .undef, .undef, .undef, .undef, .undef, .undef, .sl .fld d.1 .no, .int .i64 d.2.1, .int .i64 d.2.2.1, .undef, .undef, .undef, .undef, .undef, .undef, .undef, .undef, .undef, .undef, .undef, .undef, .undef, .undef, .undef, .undef, .undef, .undef, .undef, .undef, .undef, .undef, .undef, .undef, .undef, .undef, .undef, .undef, .undef, .undef, .undef, .undef, .undef, .undef], [.cells [.int .i64 d.2.2.2.kind, .int .i64 d.2.2.2.num.mant, .int .i64 d.2.2.2.num.exp, .str d.2.2.2.text, .sl .str d.2.2.2.names .no, .sl .json d.2.2.2.items .no]]⟩
noncomputable def field_Check_2_0_x0 {R : Type} (K : Ex → St → Option R) (q0 : Int) : Option R := K (.ret) ⟨[.undef, .undef, .undef, .undef, .int .i64 q0, .undef, .undef, .undef, .undef, .undef, .undef, .undef, .undef, .undef, .undef, .undef, .undef, .undef, .undef, .undef, .undef, .undef, .undef, .undef, .undef, .undef, .undef, .undef, .undef, .undef, .undef, .undef, .undef, .undef, .undef, .undef, .undef, .undef, .undef, .undef, .undef, .undef, .undef, .undef, .undef, .undef], []⟩
noncomputable def field_Check_2_0_x1 {R : Type} (K : Ex → St → Option R) : Option R := K (.exit 0) ⟨[.undef, .undef, .undef, .undef, .undef, .undef, .undef, .undef, .undef, .undef, .undef, .undef, .undef, .undef, .undef, .undef, .undef, .undef, .undef, .undef, .undef, .undef, .undef, .undef, .undef, .undef, .undef, .undef, .undef, .undef, .undef, .undef, .undef, .undef, .undef, .undef, .undef, .undef, .undef, .undef, .undef, .undef, .undef, .undef, .undef, .undef], []⟩
noncomputable def field_Check_2_0_s {R : Type} (field_find : field_find_ty R) (field_fits : field_fits_ty R) (K : Ex → St → Option R) (rc : field_Check_2_0_D → Option R) (d : field_Check_2_0_D) : Option R := field_Check_2_0_B field_find field_fits (fun z0 z1 z2 z3 => rc (z0, z1, z2, z3)) d.1 d.2.1 d.2.2.1 d.2.2.2 (field_Check_2_0_x0 K) (field_Check_2_0_x1 K)
noncomputable def field_Check_2_0_A {R : Type} (K : Ex → St → Option R) (n : Nat) (d : field_Check_2_0_D) : Option R := field_Check_2_0_L n d.1 d.2.1 d.2.2.1 d.2.2.2 (field_Check_2_0_x0 K) (field_Check_2_0_x1 K)
abbrev field_Check_2_0_p : List Pat := [.leaf (.undef), .leaf (.undef), .leaf (.ptr 0 0), .leaf (.undef), .leaf (.undef), .leaf (.undef), .leaf (.undef), .leaf (.undef), .leaf (.undef), .leaf (.sl .fld), .leaf (.int .i64), .leaf (.int .i64), .leaf (.undef), .leaf (.undef), .leaf (.undef), .leaf (.undef), .leaf (.undef), .leaf (.undef), .leaf (.undef), .leaf (.undef), .leaf (.undef), .leaf (.undef), .leaf (.undef), .leaf (.undef), .leaf (.undef), .leaf (.undef), .leaf (.undef), .leaf (.undef), .leaf (.undef), .leaf (.undef), .leaf (.undef), .leaf (.undef), .leaf (.undef), .leaf (.undef), .leaf (.undef), .leaf (.undef), .leaf (.undef), .leaf (.undef), .leaf (.undef), .leaf (.undef), .leaf (.undef), .leaf (.undef), .leaf (.undef), .leaf (.undef), .leaf (.undef), .leaf (.undef)]
abbrev field_Check_2_0_q : List HPat := [.cells [.int .i64, .int .i64, .int .i64, .str, .sl .str, .sl .json]]
noncomputable def field_Check_2_0_f (x : Pat.dens field_Check_2_0_p) (y : HPat.dens field_Check_2_0_q) : Nat := (List.length x.2.2.2.2.2.2.2.2.2.1 + Int.natAbs x.2.2.2.2.2.2.2.2.2.2.1 + Int.natAbs x.2.2.2.2.2.2.2.2.2.2.2.1 + 3)
noncomputable def field_Check_2_0_d (x : Pat.dens field_Check_2_0_p) (y : HPat.dens field_Check_2_0_q) : field_Check_2_0_D := (x.2.2.2.2.2.2.2.2.2.1, x.2.2.2.2.2.2.2.2.2.2.1, x.2.2.2.2.2.2.2.2.2.2.2.1, (⟨y.1.1, ⟨y.1.2.1, y.1.2.2.1⟩, y.1.2.2.2.1, y.1.2.2.2.2.1, y.1.2.2.2.2.2.1⟩ : Json))
noncomputable def field_Check_2_0_rr {R : Type} (L : field_Check_2_0_ty R) : Pat.dens field_Check_2_0_p → HPat.dens field_Check_2_0_q → (Ex → St → Option R) → Option R := fun x y K => L (field_Check_2_0_f x y) x.2.2.2.2.2.2.2.2.2.1 x.2.2.2.2.2.2.2.2.2.2.1 x.2.2.2.2.2.2.2.2.2.2.2.1 (⟨y.1.1, ⟨y.1.2.1, y.1.2.2.1⟩, y.1.2.2.2.1, y.1.2.2.2.2.1, y.1.2.2.2.2.2.1⟩ : Json) (field_Check_2_0_x0 K) (field_Check_2_0_x1 K)
noncomputable def field_Check_T (R : Type) (field_Check_2_0_L : field_Check_2_0_ty R) : Nat → Option (Hint × LSpec R) := fun i => match i with
  | 2 => some (field_Check_2_0_h, (loopBy field_Check_2_0_p field_Check_2_0_q (field_Check_2_0_rr field_Check_2_0_L) loopNo))
  | _ => none

theorem field_Check_2_0_B_ok {R : Type} (field_find : field_find_ty R) (field_fits : field_fits_ty R) (field_Check_2_0_L : field_Check_2_0_ty R) (K : Ex → St → Option R) (rc : St → Option R) (d : field_Check_2_0_D) : roundOf tt (field_Check_E R field_find field_fits) (field_Check_T R field_Check_2_0_L) 0 ((loopsOf (codeOf Try.f25)).getD 0 .skip) field_Check_2_0_h (field_Check_2_0_enc d) rc K = field_Check_2_0_s field_find field_fits K (fun d => rc (field_Check_2_0_enc d)) d := by kernel_rfl
theorem field_Check_2_0_A_succ {R : Type} (K : Ex → St → Option R) (n : Nat) (d : field_Check_2_0_D) : field_Check_2_0_A K (n + 1) d = field_Check_2_0_s field_find field_fits K (field_Check_2_0_A K n) d := by kernel_rfl
theorem field_Check_2_0_A_zero {R : Type} (K : Ex → St → Option R) (d : field_Check_2_0_D) : field_Check_2_0_A K 0 d = none := by kernel_rfl
theorem field_Check_2_0_e_ok (x : Pat.dens field_Check_2_0_p) (y : HPat.dens field_Check_2_0_q) : (⟨Pat.encL field_Check_2_0_p x, HPat.encL field_Check_2_0_q y⟩ : St) = field_Check_2_0_enc (field_Check_2_0_d x y) := by kernel_rfl
theorem field_Check_2_0_r_ok {R : Type} (x : Pat.dens field_Check_2_0_p) (y : HPat.dens field_Check_2_0_q) (K : Ex → St → Option R) : field_Check_2_0_rr (field_Check_2_0_L) x y K = field_Check_2_0_A K (field_Check_2_0_f x y) (field_Check_2_0_d x y) := by kernel_rfl
theorem field_Check_2_0_ok {R : Type} (other : LSpec R) (ho : LsOk tt (field_Check_E R field_find field_fits) (field_Check_T R field_Check_2_0_L) 0 ((loopsOf (codeOf Try.f25)).getD 0 .skip) field_Check_2_0_h other) : LsOk tt (field_Check_E R field_find field_fits) (field_Check_T R field_Check_2_0_L) 0 ((loopsOf (codeOf Try.f25)).getD 0 .skip) field_Check_2_0_h (loopBy field_Check_2_0_p field_Check_2_0_q (field_Check_2_0_rr (field_Check_2_0_L)) other) :=
  loopBy_tie (A := field_Check_2_0_A) ho (loop_tie field_Check_2_0_enc (field_Check_2_0_s field_find field_fits) (field_Check_2_0_A) (field_Check_2_0_A_zero) (field_Check_2_0_B_ok field_find field_fits field_Check_2_0_L) (field_Check_2_0_A_succ)) field_Check_2_0_f field_Check_2_0_d field_Check_2_0_e_ok (field_Check_2_0_r_ok)

noncomputable def field_Check_X {R : Type} (field_Check_2_0_L : field_Check_2_0_ty R) (x1 : Json) (x2 : List Fld) (k0 : Int → Option R) : Option R :=
  field_Check_2_0_L (List.length x2 + Int.natAbs (x2.length : Int) + Int.natAbs 0 + 3) x2 (x2.length : Int) 0 (⟨x1.kind, ⟨x1.num.mant, x1.num.exp⟩, x1.text, x1.names, x1.items⟩ : Json) (fun y11 => k0 y11) (k0 (-1))
noncomputable def field_Check {R : Type} : field_Check_ty R := fun x1 x2 k0 => field_Check_X field_Check_2_0_L x1 x2 k0
theorem field_Check_ok {R : Type} (field_find : field_find_ty R) (field_fits : field_fits_ty R) (field_Check_2_0_L : field_Check_2_0_ty R) (x1 : Json) (x2 : List Fld) (k : V → Heap → Option R) : funK tt (field_Check_E R field_find field_fits) (field_Check_T R field_Check_2_0_L) false Try.f25 (codeOf Try.f25) [.agg [.int .i64 x1.kind, .int .i64 x1.num.mant, .int .i64 x1.num.exp, .str x1.text, .sl .str x1.names .no, .sl .json x1.items .no], .sl .fld x2 .no] [] k =
    field_Check_X field_Check_2_0_L x1 x2 (fun q0 => k (.int .i64 q0) []) := by kernel_rfl
theorem field_Check_loops (R : Type) : ∀ a ∈ loopsOf (codeOf Try.f25), LoopOk tt (field_Check_E R field_find field_fits) (field_Check_T R field_Check_2_0_L) 0 a := by
  refine loops_ok 1 (by kernel_rfl) fun i hi => ?_
  match i, hi with
  | 0, _ => exact loopOk_some (by kernel_rfl) (field_Check_2_0_ok _ loopNo_ok)
  | n + 1, hi => omega
theorem field_Check_S_ok (R : Type) (other : Yard.Spec R) (ho : Yard.Spec.Ok Try.prog 25 other) : Yard.Spec.Ok Try.prog 25 (specBy field_Check_p field_Check_q (field_Check_rr field_Check) other) :=
  specBy_ok ho (funK_sound TT mixed (field_Check_EOk R) (keep := false) rfl rfl rfl rfl 0 (field_Check_loops R)) fun (x : Pat.dens field_Check_p) (y : HPat.dens field_Check_q) k => field_Check_ok field_find field_fits field_Check_2_0_L (⟨x.1.1, ⟨x.1.2.1, x.1.2.2.1⟩, x.1.2.2.2.1, x.1.2.2.2.2.1, x.1.2.2.2.2.2.1⟩ : Json) x.2.1 k

/-! ### humpyard/field.Str -/
abbrev field_Str_ty (R : Type) : Type := Str → (Json → Option R) → Option R
abbrev field_Str_p : List Pat := [.leaf (.str)]
abbrev field_Str_q : List HPat := []
noncomputable def field_Str_rr {R : Type} (fn : field_Str_ty R) : Pat.dens field_Str_p → HPat.dens field_Str_q → (V → Heap → Option R) → Option R := fun x y k => fn x.1 (fun q0 => k (.agg [.int .i64 q0.kind, .int .i64 q0.num.mant, .int .i64 q0.num.exp, .str q0.text, .sl .str q0.names .no, .sl .json q0.items .no]) [])
noncomputable def field_Str_E (R : Type) : Env R := fun i => match i with
  | _ => none
theorem field_Str_EOk (R : Type) : EOk Try.prog (field_Str_E R) := by
  intro i b sp h
  unfold field_Str_E at h
  split at h
  · cases h

noncomputable def field_Str_T (R : Type) : Nat → Option (Hint × LSpec R) := fun i => match i with
  | _ => none

noncomputable def field_Str_X {R : Type} (x1 : Str) (k0 : Json → Option R) : Option R :=
  k0 (⟨5, ⟨0, 0⟩, x1, ([] : List Str), ([] : List Json)⟩ : Json)
noncomputable def field_Str {R : Type} : field_Str_ty R := fun x1 k0 => field_Str_X x1 k0
theorem field_Str_ok {R : Type} (x1 : Str) (k : V → Heap → Option R) : funK tt (field_Str_E R) (field_Str_T R) false Try.f42 (codeOf Try.f42) [.str x1] [] k =
    field_Str_X x1 (fun q0 => k (.agg [.int .i64 q0.kind, .int .i64 q0.num.mant, .int .i64 q0.num.exp, .str q0.text, .sl .str q0.names .no, .sl .json q0.items .no]) []) := by kernel_rfl
theorem field_Str_loops (R : Type) : ∀ a ∈ loopsOf (codeOf Try.f42), LoopOk tt (field_Str_E R) (field_Str_T R) 0 a := by
  refine loops_ok 0 (by kernel_rfl) fun i hi => ?_
  omega
theorem field_Str_S_ok (R : Type) (other : Yard.Spec R) (ho : Yard.Spec.Ok Try.prog 42 other) : Yard.Spec.Ok Try.prog 42 (specBy field_Str_p field_Str_q (field_Str_rr field_Str) other) :=
  specBy_ok ho (funK_sound TT mixed (field_Str_EOk R) (keep := false) rfl rfl rfl rfl 0 (field_Str_loops R)) fun (x : Pat.dens field_Str_p) (y : HPat.dens field_Str_q) k => field_Str_ok x.1 k

/-! ### humpyard/field.Yes -/
abbrev field_Yes_ty (R : Type) : Type := Bool → (Json → Option R) → Option R
abbrev field_Yes_p : List Pat := [.leaf (.bool)]
abbrev field_Yes_q : List HPat := []
noncomputable def field_Yes_rr {R : Type} (fn : field_Yes_ty R) : Pat.dens field_Yes_p → HPat.dens field_Yes_q → (V → Heap → Option R) → Option R := fun x y k => fn x.1 (fun q0 => k (.agg [.int .i64 q0.kind, .int .i64 q0.num.mant, .int .i64 q0.num.exp, .str q0.text, .sl .str q0.names .no, .sl .json q0.items .no]) [])
noncomputable def field_Yes_E (R : Type) : Env R := fun i => match i with
  | _ => none
theorem field_Yes_EOk (R : Type) : EOk Try.prog (field_Yes_E R) := by
  intro i b sp h
  unfold field_Yes_E at h
  split at h
  · cases h

noncomputable def field_Yes_T (R : Type) : Nat → Option (Hint × LSpec R) := fun i => match i with
  | _ => none

noncomputable def field_Yes_X {R : Type} (x1 : Bool) (k0 : Json → Option R) : Option R :=
  bif x1 then (k0 (⟨3, ⟨0, 0⟩, ([] : Str), ([] : List Str), ([] : List Json)⟩ : Json)) else (k0 (⟨2, ⟨0, 0⟩, ([] : Str), ([] : List Str), ([] : List Json)⟩ : Json))
noncomputable def field_Yes {R : Type} : field_Yes_ty R := fun x1 k0 => field_Yes_X x1 k0
theorem field_Yes_ok {R : Type} (x1 : Bool) (k : V → Heap → Option R) : funK tt (field_Yes_E R) (field_Yes_T R) false Try.f44 (codeOf Try.f44) [.bool x1] [] k =
    field_Yes_X x1 (fun q0 => k (.agg [.int .i64 q0.kind, .int .i64 q0.num.mant, .int .i64 q0.num.exp, .str q0.text, .sl .str q0.names .no, .sl .json q0.items .no]) []) := by kernel_rfl
theorem field_Yes_loops (R : Type) : ∀ a ∈ loopsOf (codeOf Try.f44), LoopOk tt (field_Yes_E R) (field_Yes_T R) 0 a := by
  refine loops_ok 0 (by kernel_rfl) fun i hi => ?_
  omega
theorem field_Yes_S_ok (R : Type) (other : Yard.Spec R) (ho : Yard.Spec.Ok Try.prog 44 other) : Yard.Spec.Ok Try.prog 44 (specBy field_Yes_p field_Yes_q (field_Yes_rr field_Yes) other) :=
  specBy_ok ho (funK_sound TT mixed (field_Yes_EOk R) (keep := false) rfl rfl rfl rfl 0 (field_Yes_loops R)) fun (x : Pat.dens field_Yes_p) (y : HPat.dens field_Yes_q) k => field_Yes_ok x.1 k

/-! ### humpyard/decimal.Make -/
abbrev decimal_Make_ty (R : Type) : Type := Int → Int → (Dcm → Bool → Option R) → Option R
abbrev decimal_Make_p : List Pat := [.leaf (.int .i64), .leaf (.int .i64)]
abbrev decimal_Make_q : List HPat := []
noncomputable def decimal_Make_rr {R : Type} (fn : decimal_Make_ty R) : Pat.dens decimal_Make_p → HPat.dens decimal_Make_q → (V → Heap → Option R) → Option R := fun x y k => fn x.1 x.2.1 (fun q0 q1 => k (.tuple [.agg [.int .i64 q0.mant, .int .i64 q0.exp], .bool q1]) [])
abbrev decimal_Make_4_0_ty (R : Type) : Type := Nat → Int → Int → Dcm → (Int → Int → Dcm → Option R) → Option R
noncomputable def decimal_Make_E (R : Type) (decimal_within_int : decimal_within_int_ty R) : Env R := fun i => match i with
  | 95 => some (true, (specBy decimal_within_int_p decimal_within_int_q (decimal_within_int_rr decimal_within_int) specNo))
  | _ => none
theorem decimal_Make_EOk (R : Type) : EOk Try.prog (decimal_Make_E R decimal_within_int) := by
  intro i b sp h
  unfold decimal_Make_E at h
  split at h
  · cases h; exact (decimal_within_int_S_ok R _ (specNo_ok _))
  · cases h

noncomputable def decimal_Make_4_0_B {R : Type} (rec' : Int → Int → Dcm → Option R) (x3 : Int) (x4 : Int) (x5 : Dcm) (e0 : Int → Int → Dcm → Option R) : Option R :=
  bif ((Int.tmod x3 10) == 0) then (rec' (IntKind.i64.wrap (Int.tdiv x3 10)) (IntKind.i64.wrap (x4 + 1)) x5) else (e0 x3 x4 x5)
noncomputable def decimal_Make_4_0_L {R : Type} : decimal_Make_4_0_ty R
  | 0, _, _, _, _ => none
  | n + 1, x0', x1', x2', e0 => decimal_Make_4_0_B (fun x0' x1' x2' => decimal_Make_4_0_L n x0' x1' x2' e0) x0' x1' x2' e0
noncomputable def decimal_Make_4_0_h : Hint := { live := [0, 1, 4], own := [], rows := [], cells := [], drop := [], out := [0, 1, 4, 5] }
abbrev decimal_Make_4_0_D : Type := Int × Int × Dcm
noncomputable def decimal_Make_4_0_enc : decimal_Make_4_0_D → St := fun d => ⟨[.int .i64 d.1, .int .i64 d.2.1, .undef, .undef, .ptr 0 0, .undef, .undef, .undef, .undef, .undef, .undef, .undef, .undef, .undef, .undef, .undef, .undef, .undef, .undef, .undef, .undef, .undef, .undef, .undef, .undef, .undef, .undef, .undef, .undef, .undef], [.cells [.int .i64 d.2.2.mant, .int .i64 d.2.2.exp]]⟩
noncomputable def decimal_Make_4_0_x0 {R : Type} (K : Ex → St → Option R) (q0 : Int) (q1 : Int) (q2 : Dcm) : Option R := K (.exit 0) ⟨[.int .i64 q0, .int .i64 q1, .undef, .undef, .ptr 0 0, .undef, .undef, .undef, .undef, .undef, .undef, .undef, .undef, .undef, .undef, .undef, .undef, .undef, .undef, .undef, .undef, .undef, .undef, .undef, .undef, .undef, .undef, .undef, .undef, .undef], [.cells [.int .i64 q2.mant, .int .i64 q2.exp]]⟩
noncomputable def decimal_Make_4_0_s {R : Type} (K : Ex → St → Option R) (rc : decimal_Make_4_0_D → Option R) (d : decimal_Make_4_0_D) : Option R := decimal_Make_4_0_B (fun z0 z1 z2 => rc (z0, z1, z2)) d.1 d.2.1 d.2.2 (decimal_Make_4_0_x0 K)
noncomputable def decimal_Make_4_0_A {R : Type} (K : Ex → St → Option R) (n : Nat) (d : decimal_Make_4_0_D) : Option R := decimal_Make_4_0_L n d.1 d.2.1 d.2.2 (decimal_Make_4_0_x0 K)
abbrev decimal_Make_4_0_p : List Pat := [.leaf (.int .i64), .leaf (.int .i64), .leaf (.undef), .leaf (.undef), .leaf (.ptr 0 0), .leaf (.undef), .leaf (.undef), .leaf (.undef), .leaf (.undef), .leaf (.undef), .leaf (.undef), .leaf (.undef), .leaf (.undef), .leaf (.undef), .leaf (.undef), .leaf (.undef), .leaf (.undef), .leaf (.undef), .leaf (.undef), .leaf (.undef), .leaf (.undef), .leaf (.undef), .leaf (.undef), .leaf (.undef), .leaf (.undef), .leaf (.undef), .leaf (.undef), .leaf (.undef), .leaf (.undef), .leaf (.undef)]
abbrev decimal_Make_4_0_q : List HPat := [.cells [.int .i64, .int .i64]]
noncomputable def decimal_Make_4_0_f (x : Pat.dens decimal_Make_4_0_p) (y : HPat.dens decimal_Make_4_0_q) : Nat := (Int.natAbs x.1 + Int.natAbs x.2.1 + 3)
noncomputable def decimal_Make_4_0_d (x : Pat.dens decimal_Make_4_0_p) (y : HPat.dens decimal_Make_4_0_q) : decimal_Make_4_0_D := (x.1, x.2.1, (⟨y.1.1, y.1.2.1⟩ : Dcm))
noncomputable def decimal_Make_4_0_rr {R : Type} (L : decimal_Make_4_0_ty R) : Pat.dens decimal_Make_4_0_p → HPat.dens decimal_Make_4_0_q → (Ex → St → Option R) → Option R := fun x y K => L (decimal_Make_4_0_f x y) x.1 x.2.1 (⟨y.1.1, y.1.2.1⟩ : Dcm) (decimal_Make_4_0_x0 K)
noncomputable def decimal_Make_T (R : Type) (decimal_Make_4_0_L : decimal_Make_4_0_ty R) : Nat → Option (Hint × LSpec R) := fun i => match i with
  | 4 => some (decimal_Make_4_0_h, (loopBy decimal_Make_4_0_p decimal_Make_4_0_q (decimal_Make_4_0_rr decimal_Make_4_0_L) loopNo))
  | _ => none

theorem decimal_Make_4_0_B_ok {R : Type} (decimal_within_int : decimal_within_int_ty R) (decimal_Make_4_0_L : decimal_Make_4_0_ty R) (K : Ex → St → Option R) (rc : St → Option R) (d : decimal_Make_4_0_D) : roundOf tt (decimal_Make_E R decimal_within_int) (decimal_Make_T R decimal_Make_4_0_L) 0 ((loopsOf (codeOf Try.f82)).getD 0 .skip) decimal_Make_4_0_h (decimal_Make_4_0_enc d) rc K = decimal_Make_4_0_s K (fun d => rc (decimal_Make_4_0_enc d)) d := by kernel_rfl
theorem decimal_Make_4_0_A_succ {R : Type} (K : Ex → St → Option R) (n : Nat) (d : decimal_Make_4_0_D) : decimal_Make_4_0_A K (n + 1) d = decimal_Make_4_0_s K (decimal_Make_4_0_A K n) d := by kernel_rfl
theorem decimal_Make_4_0_A_zero {R : Type} (K : Ex → St → Option R) (d : decimal_Make_4_0_D) : decimal_Make_4_0_A K 0 d = none := by kernel_rfl
theorem decimal_Make_4_0_e_ok (x : Pat.dens decimal_Make_4_0_p) (y : HPat.dens decimal_Make_4_0_q) : (⟨Pat.encL decimal_Make_4_0_p x, HPat.encL decimal_Make_4_0_q y⟩ : St) = decimal_Make_4_0_enc (decimal_Make_4_0_d x y) := by kernel_rfl
theorem decimal_Make_4_0_r_ok {R : Type} (x : Pat.dens decimal_Make_4_0_p) (y : HPat.dens decimal_Make_4_0_q) (K : Ex → St → Option R) : decimal_Make_4_0_rr (decimal_Make_4_0_L) x y K = decimal_Make_4_0_A K (decimal_Make_4_0_f x y) (decimal_Make_4_0_d x y) := by kernel_rfl
theorem decimal_Make_4_0_ok {R : Type} (other : LSpec R) (ho : LsOk tt (decimal_Make_E R decimal_within_int) (decimal_Make_T R decimal_Make_4_0_L) 0 ((loopsOf (codeOf Try.f82)).getD 0 .skip) decimal_Make_4_0_h other) : LsOk tt (decimal_Make_E R decimal_within_int) (decimal_Make_T R decimal_Make_4_0_L) 0 ((loopsOf (codeOf Try.f82)).getD 0 .skip) decimal_Make_4_0_h (loopBy decimal_Make_4_0_p decimal_Make_4_0_q (decimal_Make_4_0_rr (decimal_Make_4_0_L)) other) :=
  loopBy_tie (A := decimal_Make_4_0_A) ho (loop_tie decimal_Make_4_0_enc (decimal_Make_4_0_s) (decimal_Make_4_0_A) (decimal_Make_4_0_A_zero) (decimal_Make_4_0_B_ok decimal_within_int decimal_Make_4_0_L) (decimal_Make_4_0_A_succ)) decimal_Make_4_0_f decimal_Make_4_0_d decimal_Make_4_0_e_ok (decimal_Make_4_0_r_ok)

noncomputable def decimal_Make_X {R : Type} (decimal_within_int : decimal_within_int_ty R) (decimal_Make_4_0_L : decimal_Make_4_0_ty R) (x1 : Int) (x2 : Int) (k0 : Dcm → Bool → Option R) : Option R :=
  bif (x1 == 0) then (k0 (⟨0, 0⟩ : Dcm) true) else (decimal_Make_4_0_L (Int.natAbs x1 + Int.natAbs (min x2 1000000) + 3) x1 (min x2 1000000) (⟨0, 0⟩ : Dcm) (fun y6 y7 y8 => decimal_within_int (-1000000000000000) y6 1000000000000000 (fun y9 => bif (!y9) then (k0 (⟨0, 0⟩ : Dcm) false) else (decimal_within_int (-9) y7 9 (fun y10 => bif (!y10) then (k0 (⟨0, 0⟩ : Dcm) false) else (k0 (⟨y6, y7⟩ : Dcm) true))))))
noncomputable def decimal_Make {R : Type} : decimal_Make_ty R := fun x1 x2 k0 => decimal_Make_X decimal_within_int decimal_Make_4_0_L x1 x2 k0
theorem decimal_Make_ok {R : Type} (decimal_within_int : decimal_within_int_ty R) (decimal_Make_4_0_L : decimal_Make_4_0_ty R) (x1 : Int) (x2 : Int) (k : V → Heap → Option R) : funK tt (decimal_Make_E R decimal_within_int) (decimal_Make_T R decimal_Make_4_0_L) false Try.f82 (codeOf Try.f82) [.int .i64 x1, .int .i64 x2] [] k =
    decimal_Make_X decimal_within_int decimal_Make_4_0_L x1 x2 (fun q0 q1 => k (.tuple [.agg [.int .i64 q0.mant, .int .i64 q0.exp], .bool q1]) []) := by kernel_rfl
theorem decimal_Make_loops (R : Type) : ∀ a ∈ loopsOf (codeOf Try.f82), LoopOk tt (decimal_Make_E R decimal_within_int) (decimal_Make_T R decimal_Make_4_0_L) 0 a := by
  refine loops_ok 1 (by kernel_rfl) fun i hi => ?_
  match i, hi with
  | 0, _ => exact loopOk_some (by kernel_rfl) (decimal_Make_4_0_ok _ loopNo_ok)
  | n + 1, hi => omega
theorem decimal_Make_S_ok (R : Type) (other : Yard.Spec R) (ho : Yard.Spec.Ok Try.prog 82 other) : Yard.Spec.Ok Try.prog 82 (specBy decimal_Make_p decimal_Make_q (decimal_Make_rr decimal_Make) other) :=
  specBy_ok ho (funK_sound TT mixed (decimal_Make_EOk R) (keep := false) rfl rfl rfl rfl 0 (decimal_Make_loops R)) fun (x : Pat.dens decimal_Make_p) (y : HPat.dens decimal_Make_q) k => decimal_Make_ok decimal_within_int decimal_Make_4_0_L x.1 x.2.1 k

/-! ### humpyard/field.Int -/
abbrev field_Int_ty (R : Type) : Type := Int → (Json → Option R) → Option R
abbrev field_Int_p : List Pat := [.leaf (.int .i64)]
abbrev field_Int_q : List HPat := []
noncomputable def field_Int_rr {R : Type} (fn : field_Int_ty R) : Pat.dens field_Int_p → HPat.dens field_Int_q → (V → Heap → Option R) → Option R := fun x y k => fn x.1 (fun q0 => k (.agg [.int .i64 q0.kind, .int .i64 q0.num.mant, .int .i64 q0.num.exp, .str q0.text, .sl .str q0.names .no, .sl .json q0.items .no]) [])
noncomputable def field_Int_E (R : Type) (decimal_Make : decimal_Make_ty R) : Env R := fun i => match i with
  | 82 => some (true, (specBy decimal_Make_p decimal_Make_q (decimal_Make_rr decimal_Make) specNo))
  | _ => none
theorem field_Int_EOk (R : Type) : EOk Try.prog (field_Int_E R decimal_Make) := by
  intro i b sp h
  unfold field_Int_E at h
  split at h
  · cases h; exact (decimal_Make_S_ok R _ (specNo_ok _))
  · cases h

noncomputable def field_Int_T (R : Type) : Nat → Option (Hint × LSpec R) := fun i => match i with
  | _ => none

noncomputable def field_Int_X {R : Type} (decimal_Make : decimal_Make_ty R) (x1 : Int) (k0 : Json → Option R) : Option R :=
  decimal_Make x1 0 (fun y2 y3 => bif (!y3) then (k0 (⟨1, ⟨0, 0⟩, ([] : Str), ([] : List Str), ([] : List Json)⟩ : Json)) else (k0 (⟨4, ⟨y2.mant, y2.exp⟩, ([] : Str), ([] : List Str), ([] : List Json)⟩ : Json)))
noncomputable def field_Int {R : Type} : field_Int_ty R := fun x1 k0 => field_Int_X decimal_Make x1 k0
theorem field_Int_ok {R : Type} (decimal_Make : decimal_Make_ty R) (x1 : Int) (k : V → Heap → Option R) : funK tt (field_Int_E R decimal_Make) (field_Int_T R) false Try.f40 (codeOf Try.f40) [.int .i64 x1] [] k =
    field_Int_X decimal_Make x1 (fun q0 => k (.agg [.int .i64 q0.kind, .int .i64 q0.num.mant, .int .i64 q0.num.exp, .str q0.text, .sl .str q0.names .no, .sl .json q0.items .no]) []) := by kernel_rfl
theorem field_Int_loops (R : Type) : ∀ a ∈ loopsOf (codeOf Try.f40), LoopOk tt (field_Int_E R decimal_Make) (field_Int_T R) 0 a := by
  refine loops_ok 0 (by kernel_rfl) fun i hi => ?_
  omega
theorem field_Int_S_ok (R : Type) (other : Yard.Spec R) (ho : Yard.Spec.Ok Try.prog 40 other) : Yard.Spec.Ok Try.prog 40 (specBy field_Int_p field_Int_q (field_Int_rr field_Int) other) :=
  specBy_ok ho (funK_sound TT mixed (field_Int_EOk R) (keep := false) rfl rfl rfl rfl 0 (field_Int_loops R)) fun (x : Pat.dens field_Int_p) (y : HPat.dens field_Int_q) k => field_Int_ok decimal_Make x.1 k

/-! ### humpyard/humpyardlaw05.awake -/
abbrev law05_awake_ty (R : Type) : Type := (Bool → Option R) → Option R
abbrev law05_awake_p : List Pat := []
abbrev law05_awake_q : List HPat := []
noncomputable def law05_awake_rr {R : Type} (fn : law05_awake_ty R) : Pat.dens law05_awake_p → HPat.dens law05_awake_q → (V → Heap → Option R) → Option R := fun x y k => fn (fun q0 => k (.bool q0) [])
noncomputable def law05_awake_E (R : Type) (field_Check : field_Check_ty R) (field_Num : field_Num_ty R) (field_Text : field_Text_ty R) (field_Int : field_Int_ty R) (field_Str : field_Str_ty R) (field_Yes : field_Yes_ty R) : Env R := fun i => match i with
  | 25 => some (true, (specBy field_Check_p field_Check_q (field_Check_rr field_Check) specNo))
  | 28 => some (true, (specBy field_Num_p field_Num_q (field_Num_rr field_Num) specNo))
  | 29 => some (true, (specBy field_Text_p field_Text_q (field_Text_rr field_Text) specNo))
  | 40 => some (true, (specBy field_Int_p field_Int_q (field_Int_rr field_Int) specNo))
  | 42 => some (true, (specBy field_Str_p field_Str_q (field_Str_rr field_Str) specNo))
  | 44 => some (true, (specBy field_Yes_p field_Yes_q (field_Yes_rr field_Yes) specNo))
  | _ => none
theorem law05_awake_EOk (R : Type) : EOk Try.prog (law05_awake_E R field_Check field_Num field_Text field_Int field_Str field_Yes) := by
  intro i b sp h
  unfold law05_awake_E at h
  split at h
  · cases h; exact (field_Check_S_ok R _ (specNo_ok _))
  · cases h; exact (field_Num_S_ok R _ (specNo_ok _))
  · cases h; exact (field_Text_S_ok R _ (specNo_ok _))
  · cases h; exact (field_Int_S_ok R _ (specNo_ok _))
  · cases h; exact (field_Str_S_ok R _ (specNo_ok _))
  · cases h; exact (field_Yes_S_ok R _ (specNo_ok _))
  · cases h

noncomputable def law05_awake_T (R : Type) : Nat → Option (Hint × LSpec R) := fun i => match i with
  | _ => none

noncomputable def law05_awake_X {R : Type} (field_Check : field_Check_ty R) (field_Num : field_Num_ty R) (field_Text : field_Text_ty R) (field_Int : field_Int_ty R) (field_Str : field_Str_ty R) (field_Yes : field_Yes_ty R) (k0 : Bool → Option R) : Option R :=
  field_Num (⟨7, ⟨0, 0⟩, ([] : Str), ([([97] : Str)] : List Str), ([(⟨4, ⟨5, 0⟩, ([] : Str), ([] : List Str), ([] : List Json)⟩ : Json)] : List Json)⟩ : Json) ([97] : Str) (fun y1 y2 => field_Text (⟨7, ⟨0, 0⟩, ([] : Str), ([([97] : Str)] : List Str), ([(⟨4, ⟨5, 0⟩, ([] : Str), ([] : List Str), ([] : List Json)⟩ : Json)] : List Json)⟩ : Json) ([97] : Str) (fun y3 y4 => field_Check (⟨7, ⟨0, 0⟩, ([] : Str), ([([97] : Str)] : List Str), ([(⟨4, ⟨5, 0⟩, ([] : Str), ([] : List Str), ([] : List Json)⟩ : Json)] : List Json)⟩ : Json) ([(⟨([97] : Str), 4, 1, 9, false⟩ : Fld)] : List Fld) (fun y5 => bif (y5 == (-1)) then (field_Check (⟨7, ⟨0, 0⟩, ([] : Str), ([([97] : Str)] : List Str), ([(⟨4, ⟨5, 0⟩, ([] : Str), ([] : List Str), ([] : List Json)⟩ : Json)] : List Json)⟩ : Json) ([(⟨([97] : Str), 4, 6, 9, false⟩ : Fld)] : List Fld) (fun y6 => bif (y6 == 0) then (bif (y1 == 5) then (bif y2 then (bif (!y4) then (field_Str ([120] : Str) (fun y7 => bif (y7.text == ([120] : Str)) then (field_Yes true (fun y8 => bif (y8.kind == 3) then (field_Int 5 (fun y9 => k0 (y9.num.mant == 5))) else (k0 false))) else (k0 false))) else (k0 false)) else (k0 false)) else (k0 false)) else (k0 false))) else (k0 false))))
noncomputable def law05_awake {R : Type} : law05_awake_ty R := fun  k0 => law05_awake_X field_Check field_Num field_Text field_Int field_Str field_Yes  k0
theorem law05_awake_ok {R : Type} (field_Check : field_Check_ty R) (field_Num : field_Num_ty R) (field_Text : field_Text_ty R) (field_Int : field_Int_ty R) (field_Str : field_Str_ty R) (field_Yes : field_Yes_ty R) (k : V → Heap → Option R) : funK tt (law05_awake_E R field_Check field_Num field_Text field_Int field_Str field_Yes) (law05_awake_T R) false Try.f22 (codeOf Try.f22) [] [] k =
    law05_awake_X field_Check field_Num field_Text field_Int field_Str field_Yes  (fun q0 => k (.bool q0) []) := by kernel_rfl
theorem law05_awake_loops (R : Type) : ∀ a ∈ loopsOf (codeOf Try.f22), LoopOk tt (law05_awake_E R field_Check field_Num field_Text field_Int field_Str field_Yes) (law05_awake_T R) 0 a := by
  refine loops_ok 0 (by kernel_rfl) fun i hi => ?_
  omega
theorem law05_awake_S_ok (R : Type) (other : Yard.Spec R) (ho : Yard.Spec.Ok Try.prog 22 other) : Yard.Spec.Ok Try.prog 22 (specBy law05_awake_p law05_awake_q (law05_awake_rr law05_awake) other) :=
  specBy_ok ho (funK_sound TT mixed (law05_awake_EOk R) (keep := false) rfl rfl rfl rfl 0 (law05_awake_loops R)) fun (x : Pat.dens law05_awake_p) (y : HPat.dens law05_awake_q) k => law05_awake_ok field_Check field_Num field_Text field_Int field_Str field_Yes  k

/-! ### humpyard/humpyardlaw04.pick -/
abbrev law04_pick_ty (R : Type) : Type := Int → Int → (Int → Option R) → Option R
abbrev law04_pick_p : List Pat := [.leaf (.int .i64), .leaf (.int .i64)]
abbrev law04_pick_q : List HPat := []
noncomputable def law04_pick_rr {R : Type} (fn : law04_pick_ty R) : Pat.dens law04_pick_p → HPat.dens law04_pick_q → (V → Heap → Option R) → Option R := fun x y k => fn x.1 x.2.1 (fun q0 => k (.int .i64 q0) [])
noncomputable def law04_pick_E (R : Type) : Env R := fun i => match i with
  | _ => none
theorem law04_pick_EOk (R : Type) : EOk Try.prog (law04_pick_E R) := by
  intro i b sp h
  unfold law04_pick_E at h
  split at h
  · cases h

noncomputable def law04_pick_T (R : Type) : Nat → Option (Hint × LSpec R) := fun i => match i with
  | _ => none

noncomputable def law04_pick_X {R : Type} (x1 : Int) (x2 : Int) (k0 : Int → Option R) : Option R :=
  bif (decide (x1 < 0)) then (chk (!decide (x2 = 0)) (k0 (Int.tmod (IntKind.i64.wrap (0 - (IntKind.i64.wrap (x1 + 1)))) x2))) else (chk (!decide (x2 = 0)) (k0 (Int.tmod x1 x2)))
noncomputable def law04_pick {R : Type} : law04_pick_ty R := fun x1 x2 k0 => law04_pick_X x1 x2 k0
theorem law04_pick_ok {R : Type} (x1 : Int) (x2 : Int) (k : V → Heap → Option R) : funK tt (law04_pick_E R) (law04_pick_T R) false Try.f63 (codeOf Try.f63) [.int .i64 x1, .int .i64 x2] [] k =
    law04_pick_X x1 x2 (fun q0 => k (.int .i64 q0) []) := by kernel_rfl
theorem law04_pick_loops (R : Type) : ∀ a ∈ loopsOf (codeOf Try.f63), LoopOk tt (law04_pick_E R) (law04_pick_T R) 0 a := by
  refine loops_ok 0 (by kernel_rfl) fun i hi => ?_
  omega
theorem law04_pick_S_ok (R : Type) (other : Yard.Spec R) (ho : Yard.Spec.Ok Try.prog 63 other) : Yard.Spec.Ok Try.prog 63 (specBy law04_pick_p law04_pick_q (law04_pick_rr law04_pick) other) :=
  specBy_ok ho (funK_sound TT mixed (law04_pick_EOk R) (keep := false) rfl rfl rfl rfl 0 (law04_pick_loops R)) fun (x : Pat.dens law04_pick_p) (y : HPat.dens law04_pick_q) k => law04_pick_ok x.1 x.2.1 k

/-! ### humpyard/humpyardlaw01.pick -/
abbrev law01_pick_ty (R : Type) : Type := Int → Int → (Int → Option R) → Option R
abbrev law01_pick_p : List Pat := [.leaf (.int .i64), .leaf (.int .i64)]
abbrev law01_pick_q : List HPat := []
noncomputable def law01_pick_rr {R : Type} (fn : law01_pick_ty R) : Pat.dens law01_pick_p → HPat.dens law01_pick_q → (V → Heap → Option R) → Option R := fun x y k => fn x.1 x.2.1 (fun q0 => k (.int .i64 q0) [])
noncomputable def law01_pick_E (R : Type) : Env R := fun i => match i with
  | _ => none
theorem law01_pick_EOk (R : Type) : EOk Try.prog (law01_pick_E R) := by
  intro i b sp h
  unfold law01_pick_E at h
  split at h
  · cases h

noncomputable def law01_pick_T (R : Type) : Nat → Option (Hint × LSpec R) := fun i => match i with
  | _ => none

noncomputable def law01_pick_X {R : Type} (x1 : Int) (x2 : Int) (k0 : Int → Option R) : Option R :=
  bif (decide (x1 < 0)) then (chk (!decide (x2 = 0)) (k0 (Int.tmod (IntKind.i64.wrap (0 - (IntKind.i64.wrap (x1 + 1)))) x2))) else (chk (!decide (x2 = 0)) (k0 (Int.tmod x1 x2)))
noncomputable def law01_pick {R : Type} : law01_pick_ty R := fun x1 x2 k0 => law01_pick_X x1 x2 k0
theorem law01_pick_ok {R : Type} (x1 : Int) (x2 : Int) (k : V → Heap → Option R) : funK tt (law01_pick_E R) (law01_pick_T R) false Try.f88 (codeOf Try.f88) [.int .i64 x1, .int .i64 x2] [] k =
    law01_pick_X x1 x2 (fun q0 => k (.int .i64 q0) []) := by kernel_rfl
theorem law01_pick_loops (R : Type) : ∀ a ∈ loopsOf (codeOf Try.f88), LoopOk tt (law01_pick_E R) (law01_pick_T R) 0 a := by
  refine loops_ok 0 (by kernel_rfl) fun i hi => ?_
  omega
theorem law01_pick_S_ok (R : Type) (other : Yard.Spec R) (ho : Yard.Spec.Ok Try.prog 88 other) : Yard.Spec.Ok Try.prog 88 (specBy law01_pick_p law01_pick_q (law01_pick_rr law01_pick) other) :=
  specBy_ok ho (funK_sound TT mixed (law01_pick_EOk R) (keep := false) rfl rfl rfl rfl 0 (law01_pick_loops R)) fun (x : Pat.dens law01_pick_p) (y : HPat.dens law01_pick_q) k => law01_pick_ok x.1 x.2.1 k

/-! ### humpyard/humpyardlaw01.Fit -/
abbrev law01_Fit_ty (R : Type) : Type := Int → Int → (Dcm → Option R) → Option R
abbrev law01_Fit_p : List Pat := [.leaf (.int .i64), .leaf (.int .i64)]
abbrev law01_Fit_q : List HPat := []
noncomputable def law01_Fit_rr {R : Type} (fn : law01_Fit_ty R) : Pat.dens law01_Fit_p → HPat.dens law01_Fit_q → (V → Heap → Option R) → Option R := fun x y k => fn x.1 x.2.1 (fun q0 => k (.agg [.int .i64 q0.mant, .int .i64 q0.exp]) [])
abbrev law01_Fit_3_0_ty (R : Type) : Type := Nat → Int → Int → Dcm → (Int → Int → Dcm → Option R) → Option R
noncomputable def law01_Fit_E (R : Type) (law01_pick : law01_pick_ty R) : Env R := fun i => match i with
  | 88 => some (true, (specBy law01_pick_p law01_pick_q (law01_pick_rr law01_pick) specNo))
  | _ => none
theorem law01_Fit_EOk (R : Type) : EOk Try.prog (law01_Fit_E R law01_pick) := by
  intro i b sp h
  unfold law01_Fit_E at h
  split at h
  · cases h; exact (law01_pick_S_ok R _ (specNo_ok _))
  · cases h

noncomputable def law01_Fit_3_0_B {R : Type} (rec' : Int → Int → Dcm → Option R) (x5 : Int) (x6 : Int) (x7 : Dcm) (e0 : Int → Int → Dcm → Option R) : Option R :=
  bif (x5 != 0) then (bif ((Int.tmod x5 10) == 0) then (rec' (IntKind.i64.wrap (Int.tdiv x5 10)) x6 x7) else (e0 x5 x6 x7)) else (e0 x5 x6 x7)
noncomputable def law01_Fit_3_0_L {R : Type} : law01_Fit_3_0_ty R
  | 0, _, _, _, _ => none
  | n + 1, x0', x1', x2', e0 => law01_Fit_3_0_B (fun x0' x1' x2' => law01_Fit_3_0_L n x0' x1' x2' e0) x0' x1' x2' e0
noncomputable def law01_Fit_3_0_h : Hint := { live := [4, 5, 6], own := [], rows := [], cells := [], drop := [], out := [4, 5, 6] }
abbrev law01_Fit_3_0_D : Type := Int × Int × Dcm
noncomputable def law01_Fit_3_0_enc : law01_Fit_3_0_D → St := fun d => ⟨[.undef, .undef, .undef, .undef, .ptr 0 0, .int .i64 d.1, .int .i64 d.2.1, .undef, .undef, .undef, .undef, .undef, .undef, .undef, .undef, .undef, .undef, .undef, .undef, .undef, .undef, .undef, .undef, .undef, .undef, .undef, .undef], [.cells [.int .i64 d.2.2.mant, .int .i64 d.2.2.exp]]⟩
noncomputable def law01_Fit_3_0_x0 {R : Type} (K : Ex → St → Option R) (q0 : Int) (q1 : Int) (q2 : Dcm) : Option R := K (.exit 0) ⟨[.undef, .undef, .undef, .undef, .ptr 0 0, .int .i64 q0, .int .i64 q1, .undef, .undef, .undef, .undef, .undef, .undef, .undef, .undef, .undef, .undef, .undef, .undef, .undef, .undef, .undef, .undef, .undef, .undef, .undef, .undef], [.cells [.int .i64 q2.mant, .int .i64 q2.exp]]⟩
noncomputable def law01_Fit_3_0_s {R : Type} (K : Ex → St → Option R) (rc : law01_Fit_3_0_D → Option R) (d : law01_Fit_3_0_D) : Option R := law01_Fit_3_0_B (fun z0 z1 z2 => rc (z0, z1, z2)) d.1 d.2.1 d.2.2 (law01_Fit_3_0_x0 K)
noncomputable def law01_Fit_3_0_A {R : Type} (K : Ex → St → Option R) (n : Nat) (d : law01_Fit_3_0_D) : Option R := law01_Fit_3_0_L n d.1 d.2.1 d.2.2 (law01_Fit_3_0_x0 K)
abbrev law01_Fit_3_0_p : List Pat := [.leaf (.undef), .leaf (.undef), .leaf (.undef), .leaf (.undef), .leaf (.ptr 0 0), .leaf (.int .i64), .leaf (.int .i64), .leaf (.undef), .leaf (.undef), .leaf (.undef), .leaf (.undef), .leaf (.undef), .leaf (.undef), .leaf (.undef), .leaf (.undef), .leaf (.undef), .leaf (.undef), .leaf (.undef), .leaf (.undef), .leaf (.undef), .leaf (.undef), .leaf (.undef), .leaf (.undef), .leaf (.undef), .leaf (.undef), .leaf (.undef), .leaf (.undef)]
abbrev law01_Fit_3_0_q : List HPat := [.cells [.int .i64, .int .i64]]
noncomputable def law01_Fit_3_0_f (x : Pat.dens law01_Fit_3_0_p) (y : HPat.dens law01_Fit_3_0_q) : Nat := (Int.natAbs x.2.2.2.2.2.1 + Int.natAbs x.2.2.2.2.2.2.1 + 3)
noncomputable def law01_Fit_3_0_d (x : Pat.dens law01_Fit_3_0_p) (y : HPat.dens law01_Fit_3_0_q) : law01_Fit_3_0_D := (x.2.2.2.2.2.1, x.2.2.2.2.2.2.1, (⟨y.1.1, y.1.2.1⟩ : Dcm))
noncomputable def law01_Fit_3_0_rr {R : Type} (L : law01_Fit_3_0_ty R) : Pat.dens law01_Fit_3_0_p → HPat.dens law01_Fit_3_0_q → (Ex → St → Option R) → Option R := fun x y K => L (law01_Fit_3_0_f x y) x.2.2.2.2.2.1 x.2.2.2.2.2.2.1 (⟨y.1.1, y.1.2.1⟩ : Dcm) (law01_Fit_3_0_x0 K)
noncomputable def law01_Fit_T (R : Type) (law01_Fit_3_0_L : law01_Fit_3_0_ty R) : Nat → Option (Hint × LSpec R) := fun i => match i with
  | 3 => some (law01_Fit_3_0_h, (loopBy law01_Fit_3_0_p law01_Fit_3_0_q (law01_Fit_3_0_rr law01_Fit_3_0_L) loopNo))
  | _ => none

theorem law01_Fit_3_0_B_ok {R : Type} (law01_pick : law01_pick_ty R) (law01_Fit_3_0_L : law01_Fit_3_0_ty R) (K : Ex → St → Option R) (rc : St → Option R) (d : law01_Fit_3_0_D) : roundOf tt (law01_Fit_E R law01_pick) (law01_Fit_T R law01_Fit_3_0_L) 0 ((loopsOf (codeOf Try.f64)).getD 0 .skip) law01_Fit_3_0_h (law01_Fit_3_0_enc d) rc K = law01_Fit_3_0_s K (fun d => rc (law01_Fit_3_0_enc d)) d := by kernel_rfl
theorem law01_Fit_3_0_A_succ {R : Type} (K : Ex → St → Option R) (n : Nat) (d : law01_Fit_3_0_D) : law01_Fit_3_0_A K (n + 1) d = law01_Fit_3_0_s K (law01_Fit_3_0_A K n) d := by kernel_rfl
theorem law01_Fit_3_0_A_zero {R : Type} (K : Ex → St → Option R) (d : law01_Fit_3_0_D) : law01_Fit_3_0_A K 0 d = none := by kernel_rfl
theorem law01_Fit_3_0_e_ok (x : Pat.dens law01_Fit_3_0_p) (y : HPat.dens law01_Fit_3_0_q) : (⟨Pat.encL law01_Fit_3_0_p x, HPat.encL law01_Fit_3_0_q y⟩ : St) = law01_Fit_3_0_enc (law01_Fit_3_0_d x y) := by kernel_rfl
theorem law01_Fit_3_0_r_ok {R : Type} (x : Pat.dens law01_Fit_3_0_p) (y : HPat.dens law01_Fit_3_0_q) (K : Ex → St → Option R) : law01_Fit_3_0_rr (law01_Fit_3_0_L) x y K = law01_Fit_3_0_A K (law01_Fit_3_0_f x y) (law01_Fit_3_0_d x y) := by kernel_rfl
theorem law01_Fit_3_0_ok {R : Type} (other : LSpec R) (ho : LsOk tt (law01_Fit_E R law01_pick) (law01_Fit_T R law01_Fit_3_0_L) 0 ((loopsOf (codeOf Try.f64)).getD 0 .skip) law01_Fit_3_0_h other) : LsOk tt (law01_Fit_E R law01_pick) (law01_Fit_T R law01_Fit_3_0_L) 0 ((loopsOf (codeOf Try.f64)).getD 0 .skip) law01_Fit_3_0_h (loopBy law01_Fit_3_0_p law01_Fit_3_0_q (law01_Fit_3_0_rr (law01_Fit_3_0_L)) other) :=
  loopBy_tie (A := law01_Fit_3_0_A) ho (loop_tie law01_Fit_3_0_enc (law01_Fit_3_0_s) (law01_Fit_3_0_A) (law01_Fit_3_0_A_zero) (law01_Fit_3_0_B_ok law01_pick law01_Fit_3_0_L) (law01_Fit_3_0_A_succ)) law01_Fit_3_0_f law01_Fit_3_0_d law01_Fit_3_0_e_ok (law01_Fit_3_0_r_ok)

noncomputable def law01_Fit_X {R : Type} (law01_pick : law01_pick_ty R) (law01_Fit_3_0_L : law01_Fit_3_0_ty R) (x1 : Int) (x2 : Int) (k0 : Dcm → Option R) : Option R :=
  law01_pick x1 2000000000000001 (fun y3 => law01_pick x2 19 (fun y4 => law01_Fit_3_0_L (Int.natAbs (IntKind.i64.wrap (y3 - 1000000000000000)) + Int.natAbs (IntKind.i64.wrap (y4 - 9)) + 3) (IntKind.i64.wrap (y3 - 1000000000000000)) (IntKind.i64.wrap (y4 - 9)) (⟨0, 0⟩ : Dcm) (fun y8 y9 y10 => bif (y8 == 0) then (k0 (⟨y8, 0⟩ : Dcm)) else (k0 (⟨y8, y9⟩ : Dcm)))))
noncomputable def law01_Fit {R : Type} : law01_Fit_ty R := fun x1 x2 k0 => law01_Fit_X law01_pick law01_Fit_3_0_L x1 x2 k0
theorem law01_Fit_ok {R : Type} (law01_pick : law01_pick_ty R) (law01_Fit_3_0_L : law01_Fit_3_0_ty R) (x1 : Int) (x2 : Int) (k : V → Heap → Option R) : funK tt (law01_Fit_E R law01_pick) (law01_Fit_T R law01_Fit_3_0_L) false Try.f64 (codeOf Try.f64) [.int .i64 x1, .int .i64 x2] [] k =
    law01_Fit_X law01_pick law01_Fit_3_0_L x1 x2 (fun q0 => k (.agg [.int .i64 q0.mant, .int .i64 q0.exp]) []) := by kernel_rfl
theorem law01_Fit_loops (R : Type) : ∀ a ∈ loopsOf (codeOf Try.f64), LoopOk tt (law01_Fit_E R law01_pick) (law01_Fit_T R law01_Fit_3_0_L) 0 a := by
  refine loops_ok 1 (by kernel_rfl) fun i hi => ?_
  match i, hi with
  | 0, _ => exact loopOk_some (by kernel_rfl) (law01_Fit_3_0_ok _ loopNo_ok)
  | n + 1, hi => omega
theorem law01_Fit_S_ok (R : Type) (other : Yard.Spec R) (ho : Yard.Spec.Ok Try.prog 64 other) : Yard.Spec.Ok Try.prog 64 (specBy law01_Fit_p law01_Fit_q (law01_Fit_rr law01_Fit) other) :=
  specBy_ok ho (funK_sound TT mixed (law01_Fit_EOk R) (keep := false) rfl rfl rfl rfl 0 (law01_Fit_loops R)) fun (x : Pat.dens law01_Fit_p) (y : HPat.dens law01_Fit_q) k => law01_Fit_ok law01_pick law01_Fit_3_0_L x.1 x.2.1 k

/-! ### humpyard/humpyardlaw02.pick -/
abbrev law02_pick_ty (R : Type) : Type := Int → Int → (Int → Option R) → Option R
abbrev law02_pick_p : List Pat := [.leaf (.int .i64), .leaf (.int .i64)]
abbrev law02_pick_q : List HPat := []
noncomputable def law02_pick_rr {R : Type} (fn : law02_pick_ty R) : Pat.dens law02_pick_p → HPat.dens law02_pick_q → (V → Heap → Option R) → Option R := fun x y k => fn x.1 x.2.1 (fun q0 => k (.int .i64 q0) [])
noncomputable def law02_pick_E (R : Type) : Env R := fun i => match i with
  | _ => none
theorem law02_pick_EOk (R : Type) : EOk Try.prog (law02_pick_E R) := by
  intro i b sp h
  unfold law02_pick_E at h
  split at h
  · cases h

noncomputable def law02_pick_T (R : Type) : Nat → Option (Hint × LSpec R) := fun i => match i with
  | _ => none

noncomputable def law02_pick_X {R : Type} (x1 : Int) (x2 : Int) (k0 : Int → Option R) : Option R :=
  bif (decide (x1 < 0)) then (chk (!decide (x2 = 0)) (k0 (Int.tmod (IntKind.i64.wrap (0 - (IntKind.i64.wrap (x1 + 1)))) x2))) else (chk (!decide (x2 = 0)) (k0 (Int.tmod x1 x2)))
noncomputable def law02_pick {R : Type} : law02_pick_ty R := fun x1 x2 k0 => law02_pick_X x1 x2 k0
theorem law02_pick_ok {R : Type} (x1 : Int) (x2 : Int) (k : V → Heap → Option R) : funK tt (law02_pick_E R) (law02_pick_T R) false Try.f89 (codeOf Try.f89) [.int .i64 x1, .int .i64 x2] [] k =
    law02_pick_X x1 x2 (fun q0 => k (.int .i64 q0) []) := by kernel_rfl
theorem law02_pick_loops (R : Type) : ∀ a ∈ loopsOf (codeOf Try.f89), LoopOk tt (law02_pick_E R) (law02_pick_T R) 0 a := by
  refine loops_ok 0 (by kernel_rfl) fun i hi => ?_
  omega
theorem law02_pick_S_ok (R : Type) (other : Yard.Spec R) (ho : Yard.Spec.Ok Try.prog 89 other) : Yard.Spec.Ok Try.prog 89 (specBy law02_pick_p law02_pick_q (law02_pick_rr law02_pick) other) :=
  specBy_ok ho (funK_sound TT mixed (law02_pick_EOk R) (keep := false) rfl rfl rfl rfl 0 (law02_pick_loops R)) fun (x : Pat.dens law02_pick_p) (y : HPat.dens law02_pick_q) k => law02_pick_ok x.1 x.2.1 k

end Go.Proofs.Ytcocpfgemdkkfaa
