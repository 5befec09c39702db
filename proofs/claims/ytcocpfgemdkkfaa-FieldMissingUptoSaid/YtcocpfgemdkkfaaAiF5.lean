/-
  Functions of the program as pure Lean functions, and the ties; printed by wip/tools/emit.py.
-/
import Derived.Test.YtcocpfgemdkkfaaAiF4
set_option maxRecDepth 100000
set_option linter.unusedVariables false
namespace Go.Proofs.Ytcocpfgemdkkfaa
open Go Go.Yard

/-! ### humpyard/humpyardlaw05.FieldMissing -/
abbrev law05_FieldMissing_af93_ty (R : Type) : Type := (List Fld) → (Bool → Option R) → Option R
abbrev law05_FieldMissing_af93_p : List Pat := [.leaf (.sl .fld)]
abbrev law05_FieldMissing_af93_q : List HPat := []
noncomputable def law05_FieldMissing_af93_rr {R : Type} (fn : law05_FieldMissing_af93_ty R) : Pat.dens law05_FieldMissing_af93_p → HPat.dens law05_FieldMissing_af93_q → (V → Heap → Option R) → Option R := fun x y k => fn x.1 (fun q0 => k (.bool q0) [])
abbrev law05_FieldMissing_af93_6_0_ty (R : Type) : Type := Nat → Bool → Nat → Int → Int → (List Fld) → Json → (Bool → Nat → Int → (List Fld) → Json → Option R) → Option R
abbrev law05_FieldMissing_af93_13_0_ty (R : Type) : Type := Nat → Bool → Nat → Int → (List Fld) → Json → (Bool → Nat → (List Fld) → Json → Option R) → Option R
noncomputable def law05_FieldMissing_af93_E (R : Type) (law05_awake : law05_awake_ty R) (field_Make : field_Make_ty R) (field_Check : field_Check_ty R) : Env R := fun i => match i with
  | 22 => some (true, (specBy law05_awake_p law05_awake_q (law05_awake_rr law05_awake) specNo))
  | 24 => some (true, (specBy field_Make_p field_Make_q (field_Make_rr field_Make) specNo))
  | 25 => some (true, (specBy field_Check_p field_Check_q (field_Check_rr field_Check) specNo))
  | _ => none
theorem law05_FieldMissing_af93_EOk (R : Type) : EOk Try.prog (law05_FieldMissing_af93_E R law05_awake field_Make field_Check) := by
  intro i b sp h
  unfold law05_FieldMissing_af93_E at h
  split at h
  · cases h; exact (law05_awake_S_ok R _ (specNo_ok _))
  · cases h; exact (field_Make_S_ok R _ (specNo_ok _))
  · cases h; exact (field_Check_S_ok R _ (specNo_ok _))
  · cases h

noncomputable def law05_FieldMissing_af93_6_0_B {R : Type} (rec' : Bool → Nat → Int → Int → (List Fld) → Json → Option R) (x4 : Bool) (x5 : Nat) (x6 : Int) (x7 : Int) (x8 : List Fld) (x9 : Json) (e0 : Bool → Nat → Int → (List Fld) → Json → Option R) : Option R :=
  bif (decide (x7 ≥ 0)) then (chk (decide (0 ≤ x7) && decide (x7 < x5)) (chk (decide (x7.toNat < x8.length)) (bif (!(x8.getD x7.toNat (Ty.dflt .fld)).free) then (rec' x4 x5 x7 (IntKind.i64.wrap (x7 - 1)) x8 (⟨x9.kind, ⟨x9.num.mant, x9.num.exp⟩, x9.text, x9.names, x9.items⟩ : Json)) else (rec' x4 x5 x6 (IntKind.i64.wrap (x7 - 1)) x8 (⟨x9.kind, ⟨x9.num.mant, x9.num.exp⟩, x9.text, x9.names, x9.items⟩ : Json))))) else (e0 x4 x5 x6 x8 (⟨x9.kind, ⟨x9.num.mant, x9.num.exp⟩, x9.text, x9.names, x9.items⟩ : Json))
noncomputable def law05_FieldMissing_af93_6_0_L {R : Type} : law05_FieldMissing_af93_6_0_ty R
  | 0, _, _, _, _, _, _, _ => none
  | n + 1, x0', x1', x2', x3', x4', x5', e0 => law05_FieldMissing_af93_6_0_B (fun x0' x1' x2' x3' x4' x5' => law05_FieldMissing_af93_6_0_L n x0' x1' x2' x3' x4' x5' e0) x0' x1' x2' x3' x4' x5' e0
noncomputable def law05_FieldMissing_af93_6_0_h : Hint := { live := [3, 4, 5, 6, 7], own := [], rows := [], cells := [], drop := [], out := [2, 3, 4, 5, 6] }
abbrev law05_FieldMissing_af93_6_0_D : Type := Bool × Nat × Int × Int × (List Fld) × Json
noncomputable def law05_FieldMissing_af93_6_0_enc : law05_FieldMissing_af93_6_0_D → St := fun d => ⟨[.undef, .undef, .undef, .bool d.1, .row 0 d.2.1, .ptr 1 0, .int .i64 d.2.2.1, .int .i64 d.2.2.2.1, .undef, .undef, .undef, .undef, .undef, .undef, .undef, .undef, .undef, .undef, .undef, .undef, .undef, .undef, .undef, .undef, .undef, .undef, .undef, .undef, .undef, .undef, .undef, .undef, .undef, .undef, .undef, .undef, .undef, .undef, .undef, .undef, .undef, .undef, .undef, .undef, .undef, .undef, .undef, .undef, .undef, .undef, .undef, .undef, .undef], [.row .fld d.2.2.2.2.1, .cells [.int .i64 d.2.2.2.2.2.kind, .int .i64 d.2.2.2.2.2.num.mant, .int .i64 d.2.2.2.2.2.num.exp, .str d.2.2.2.2.2.text, .sl .str d.2.2.2.2.2.names .no, .sl .json d.2.2.2.2.2.items .no]]⟩
noncomputable def law05_FieldMissing_af93_6_0_x0 {R : Type} (K : Ex → St → Option R) (q0 : Bool) (q1 : Nat) (q2 : Int) (q3 : List Fld) (q4 : Json) : Option R := K (.exit 0) ⟨[.undef, .undef, .undef, .bool q0, .row 0 q1, .ptr 1 0, .int .i64 q2, .undef, .undef, .undef, .undef, .undef, .undef, .undef, .undef, .undef, .undef, .undef, .undef, .undef, .undef, .undef, .undef, .undef, .undef, .undef, .undef, .undef, .undef, .undef, .undef, .undef, .undef, .undef, .undef, .undef, .undef, .undef, .undef, .undef, .undef, .undef, .undef, .undef, .undef, .undef, .undef, .undef, .undef, .undef, .undef, .undef, .undef], [.row .fld q3, .cells [.int .i64 q4.kind, .int .i64 q4.num.mant, .int .i64 q4.num.exp, .str q4.text, .sl .str q4.names .no, .sl .json q4.items .no]]⟩
noncomputable def law05_FieldMissing_af93_6_0_s {R : Type} (K : Ex → St → Option R) (rc : law05_FieldMissing_af93_6_0_D → Option R) (d : law05_FieldMissing_af93_6_0_D) : Option R := law05_FieldMissing_af93_6_0_B (fun z0 z1 z2 z3 z4 z5 => rc (z0, z1, z2, z3, z4, z5)) d.1 d.2.1 d.2.2.1 d.2.2.2.1 d.2.2.2.2.1 d.2.2.2.2.2 (law05_FieldMissing_af93_6_0_x0 K)
noncomputable def law05_FieldMissing_af93_6_0_A {R : Type} (K : Ex → St → Option R) (n : Nat) (d : law05_FieldMissing_af93_6_0_D) : Option R := law05_FieldMissing_af93_6_0_L n d.1 d.2.1 d.2.2.1 d.2.2.2.1 d.2.2.2.2.1 d.2.2.2.2.2 (law05_FieldMissing_af93_6_0_x0 K)
abbrev law05_FieldMissing_af93_6_0_p : List Pat := [.leaf (.undef), .leaf (.undef), .leaf (.undef), .leaf (.bool), .leaf (.row 0), .leaf (.ptr 1 0), .leaf (.int .i64), .leaf (.int .i64), .leaf (.undef), .leaf (.undef), .leaf (.undef), .leaf (.undef), .leaf (.undef), .leaf (.undef), .leaf (.undef), .leaf (.undef), .leaf (.undef), .leaf (.undef), .leaf (.undef), .leaf (.undef), .leaf (.undef), .leaf (.undef), .leaf (.undef), .leaf (.undef), .leaf (.undef), .leaf (.undef), .leaf (.undef), .leaf (.undef), .leaf (.undef), .leaf (.undef), .leaf (.undef), .leaf (.undef), .leaf (.undef), .leaf (.undef), .leaf (.undef), .leaf (.undef), .leaf (.undef), .leaf (.undef), .leaf (.undef), .leaf (.undef), .leaf (.undef), .leaf (.undef), .leaf (.undef), .leaf (.undef), .leaf (.undef), .leaf (.undef), .leaf (.undef), .leaf (.undef), .leaf (.undef), .leaf (.undef), .leaf (.undef), .leaf (.undef), .leaf (.undef)]
abbrev law05_FieldMissing_af93_6_0_q : List HPat := [.row .fld, .cells [.int .i64, .int .i64, .int .i64, .str, .sl .str, .sl .json]]
noncomputable def law05_FieldMissing_af93_6_0_f (x : Pat.dens law05_FieldMissing_af93_6_0_p) (y : HPat.dens law05_FieldMissing_af93_6_0_q) : Nat := (Int.natAbs x.2.2.2.2.2.2.1 + Int.natAbs x.2.2.2.2.2.2.2.1 + List.length y.1 + 3)
noncomputable def law05_FieldMissing_af93_6_0_d (x : Pat.dens law05_FieldMissing_af93_6_0_p) (y : HPat.dens law05_FieldMissing_af93_6_0_q) : law05_FieldMissing_af93_6_0_D := (x.2.2.2.1, x.2.2.2.2.1, x.2.2.2.2.2.2.1, x.2.2.2.2.2.2.2.1, y.1, (⟨y.2.1.1, ⟨y.2.1.2.1, y.2.1.2.2.1⟩, y.2.1.2.2.2.1, y.2.1.2.2.2.2.1, y.2.1.2.2.2.2.2.1⟩ : Json))
noncomputable def law05_FieldMissing_af93_6_0_rr {R : Type} (L : law05_FieldMissing_af93_6_0_ty R) : Pat.dens law05_FieldMissing_af93_6_0_p → HPat.dens law05_FieldMissing_af93_6_0_q → (Ex → St → Option R) → Option R := fun x y K => L (law05_FieldMissing_af93_6_0_f x y) x.2.2.2.1 x.2.2.2.2.1 x.2.2.2.2.2.2.1 x.2.2.2.2.2.2.2.1 y.1 (⟨y.2.1.1, ⟨y.2.1.2.1, y.2.1.2.2.1⟩, y.2.1.2.2.2.1, y.2.1.2.2.2.2.1, y.2.1.2.2.2.2.2.1⟩ : Json) (law05_FieldMissing_af93_6_0_x0 K)
noncomputable def law05_FieldMissing_af93_13_0_B {R : Type} (rec' : Bool → Nat → Int → (List Fld) → Json → Option R) (x16 : Bool) (x17 : Nat) (x18 : Int) (x19 : List Fld) (x20 : Json) (e0 : Bool → Nat → (List Fld) → Json → Option R) : Option R :=
  bif (decide (x18 < (x17 : Int))) then (chk (decide (0 ≤ x18) && decide (x18 < x17)) (chk (decide (x18.toNat < x19.length)) (rec' x16 x17 (IntKind.i64.wrap (x18 + 1)) (x19.set x18.toNat (⟨(x19.getD x18.toNat (Ty.dflt .fld)).name, (x19.getD x18.toNat (Ty.dflt .fld)).kind, (x19.getD x18.toNat (Ty.dflt .fld)).low, (x19.getD x18.toNat (Ty.dflt .fld)).high, true⟩ : Fld)) (⟨x20.kind, ⟨x20.num.mant, x20.num.exp⟩, x20.text, x20.names, x20.items⟩ : Json)))) else (e0 x16 x17 x19 (⟨x20.kind, ⟨x20.num.mant, x20.num.exp⟩, x20.text, x20.names, x20.items⟩ : Json))
noncomputable def law05_FieldMissing_af93_13_0_L {R : Type} : law05_FieldMissing_af93_13_0_ty R
  | 0, _, _, _, _, _, _ => none
  | n + 1, x0', x1', x2', x3', x4', e0 => law05_FieldMissing_af93_13_0_B (fun x0' x1' x2' x3' x4' => law05_FieldMissing_af93_13_0_L n x0' x1' x2' x3' x4' e0) x0' x1' x2' x3' x4' e0
noncomputable def law05_FieldMissing_af93_13_0_h : Hint := { live := [3, 4, 5, 8], own := [], rows := [], cells := [], drop := [], out := [2, 3, 4, 5] }
abbrev law05_FieldMissing_af93_13_0_D : Type := Bool × Nat × Int × (List Fld) × Json
noncomputable def law05_FieldMissing_af93_13_0_enc : law05_FieldMissing_af93_13_0_D → St := fun d => ⟨[.undef, .undef, .undef, .bool d.1, .row 0 d.2.1, .ptr 1 0, .undef, .undef, .int .i64 d.2.2.1, .undef, .undef, .undef, .undef, .undef, .undef, .undef, .undef, .undef, .undef, .undef, .undef, .undef, .undef, .undef, .undef, .undef, .undef, .undef, .undef, .undef, .undef, .undef, .undef, .undef, .undef, .undef, .undef, .undef, .undef, .undef, .undef, .undef, .undef, .undef, .undef, .undef, .undef, .undef, .undef, .undef, .undef, .undef, .undef], [.row .fld d.2.2.2.1, .cells [.int .i64 d.2.2.2.2.kind, .int .i64 d.2.2.2.2.num.mant, .int .i64 d.2.2.2.2.num.exp, .str d.2.2.2.2.text, .sl .str d.2.2.2.2.names .no, .sl .json d.2.2.2.2.items .no]]⟩
noncomputable def law05_FieldMissing_af93_13_0_x0 {R : Type} (K : Ex → St → Option R) (q0 : Bool) (q1 : Nat) (q2 : List Fld) (q3 : Json) : Option R := K (.exit 2) ⟨[.undef, .undef, .undef, .bool q0, .row 0 q1, .ptr 1 0, .undef, .undef, .undef, .undef, .undef, .undef, .undef, .undef, .undef, .undef, .undef, .undef, .undef, .undef, .undef, .undef, .undef, .undef, .undef, .undef, .undef, .undef, .undef, .undef, .undef, .undef, .undef, .undef, .undef, .undef, .undef, .undef, .undef, .undef, .undef, .undef, .undef, .undef, .undef, .undef, .undef, .undef, .undef, .undef, .undef, .undef, .undef], [.row .fld q2, .cells [.int .i64 q3.kind, .int .i64 q3.num.mant, .int .i64 q3.num.exp, .str q3.text, .sl .str q3.names .no, .sl .json q3.items .no]]⟩
noncomputable def law05_FieldMissing_af93_13_0_s {R : Type} (K : Ex → St → Option R) (rc : law05_FieldMissing_af93_13_0_D → Option R) (d : law05_FieldMissing_af93_13_0_D) : Option R := law05_FieldMissing_af93_13_0_B (fun z0 z1 z2 z3 z4 => rc (z0, z1, z2, z3, z4)) d.1 d.2.1 d.2.2.1 d.2.2.2.1 d.2.2.2.2 (law05_FieldMissing_af93_13_0_x0 K)
noncomputable def law05_FieldMissing_af93_13_0_A {R : Type} (K : Ex → St → Option R) (n : Nat) (d : law05_FieldMissing_af93_13_0_D) : Option R := law05_FieldMissing_af93_13_0_L n d.1 d.2.1 d.2.2.1 d.2.2.2.1 d.2.2.2.2 (law05_FieldMissing_af93_13_0_x0 K)
abbrev law05_FieldMissing_af93_13_0_p : List Pat := [.leaf (.undef), .leaf (.undef), .leaf (.undef), .leaf (.bool), .leaf (.row 0), .leaf (.ptr 1 0), .leaf (.undef), .leaf (.undef), .leaf (.int .i64), .leaf (.undef), .leaf (.undef), .leaf (.undef), .leaf (.undef), .leaf (.undef), .leaf (.undef), .leaf (.undef), .leaf (.undef), .leaf (.undef), .leaf (.undef), .leaf (.undef), .leaf (.undef), .leaf (.undef), .leaf (.undef), .leaf (.undef), .leaf (.undef), .leaf (.undef), .leaf (.undef), .leaf (.undef), .leaf (.undef), .leaf (.undef), .leaf (.undef), .leaf (.undef), .leaf (.undef), .leaf (.undef), .leaf (.undef), .leaf (.undef), .leaf (.undef), .leaf (.undef), .leaf (.undef), .leaf (.undef), .leaf (.undef), .leaf (.undef), .leaf (.undef), .leaf (.undef), .leaf (.undef), .leaf (.undef), .leaf (.undef), .leaf (.undef), .leaf (.undef), .leaf (.undef), .leaf (.undef), .leaf (.undef), .leaf (.undef)]
abbrev law05_FieldMissing_af93_13_0_q : List HPat := [.row .fld, .cells [.int .i64, .int .i64, .int .i64, .str, .sl .str, .sl .json]]
noncomputable def law05_FieldMissing_af93_13_0_f (x : Pat.dens law05_FieldMissing_af93_13_0_p) (y : HPat.dens law05_FieldMissing_af93_13_0_q) : Nat := (Int.natAbs x.2.2.2.2.2.2.2.2.1 + List.length y.1 + 3)
noncomputable def law05_FieldMissing_af93_13_0_d (x : Pat.dens law05_FieldMissing_af93_13_0_p) (y : HPat.dens law05_FieldMissing_af93_13_0_q) : law05_FieldMissing_af93_13_0_D := (x.2.2.2.1, x.2.2.2.2.1, x.2.2.2.2.2.2.2.2.1, y.1, (⟨y.2.1.1, ⟨y.2.1.2.1, y.2.1.2.2.1⟩, y.2.1.2.2.2.1, y.2.1.2.2.2.2.1, y.2.1.2.2.2.2.2.1⟩ : Json))
noncomputable def law05_FieldMissing_af93_13_0_rr {R : Type} (L : law05_FieldMissing_af93_13_0_ty R) : Pat.dens law05_FieldMissing_af93_13_0_p → HPat.dens law05_FieldMissing_af93_13_0_q → (Ex → St → Option R) → Option R := fun x y K => L (law05_FieldMissing_af93_13_0_f x y) x.2.2.2.1 x.2.2.2.2.1 x.2.2.2.2.2.2.2.2.1 y.1 (⟨y.2.1.1, ⟨y.2.1.2.1, y.2.1.2.2.1⟩, y.2.1.2.2.2.1, y.2.1.2.2.2.2.1, y.2.1.2.2.2.2.2.1⟩ : Json) (law05_FieldMissing_af93_13_0_x0 K)
noncomputable def law05_FieldMissing_af93_T (R : Type) (law05_FieldMissing_af93_6_0_L : law05_FieldMissing_af93_6_0_ty R) (law05_FieldMissing_af93_13_0_L : law05_FieldMissing_af93_13_0_ty R) : Nat → Option (Hint × LSpec R) := fun i => match i with
  | 6 => some (law05_FieldMissing_af93_6_0_h, (loopBy law05_FieldMissing_af93_6_0_p law05_FieldMissing_af93_6_0_q (law05_FieldMissing_af93_6_0_rr law05_FieldMissing_af93_6_0_L) loopNo))
  | 13 => some (law05_FieldMissing_af93_13_0_h, (loopBy law05_FieldMissing_af93_13_0_p law05_FieldMissing_af93_13_0_q (law05_FieldMissing_af93_13_0_rr law05_FieldMissing_af93_13_0_L) loopNo))
  | _ => none

theorem law05_FieldMissing_af93_6_0_B_ok {R : Type} (law05_awake : law05_awake_ty R) (field_Make : field_Make_ty R) (field_Check : field_Check_ty R) (law05_FieldMissing_af93_6_0_L : law05_FieldMissing_af93_6_0_ty R) (law05_FieldMissing_af93_13_0_L : law05_FieldMissing_af93_13_0_ty R) (K : Ex → St → Option R) (rc : St → Option R) (d : law05_FieldMissing_af93_6_0_D) : roundOf (tt.mode [.fld]) (law05_FieldMissing_af93_E R law05_awake field_Make field_Check) (law05_FieldMissing_af93_T R law05_FieldMissing_af93_6_0_L law05_FieldMissing_af93_13_0_L) 0 ((loopsOf (codeOf Try.f6)).getD 0 .skip) law05_FieldMissing_af93_6_0_h (law05_FieldMissing_af93_6_0_enc d) rc K = law05_FieldMissing_af93_6_0_s K (fun d => rc (law05_FieldMissing_af93_6_0_enc d)) d := by kernel_rfl
theorem law05_FieldMissing_af93_6_0_A_succ {R : Type} (K : Ex → St → Option R) (n : Nat) (d : law05_FieldMissing_af93_6_0_D) : law05_FieldMissing_af93_6_0_A K (n + 1) d = law05_FieldMissing_af93_6_0_s K (law05_FieldMissing_af93_6_0_A K n) d := by kernel_rfl
theorem law05_FieldMissing_af93_6_0_A_zero {R : Type} (K : Ex → St → Option R) (d : law05_FieldMissing_af93_6_0_D) : law05_FieldMissing_af93_6_0_A K 0 d = none := by kernel_rfl
theorem law05_FieldMissing_af93_6_0_e_ok (x : Pat.dens law05_FieldMissing_af93_6_0_p) (y : HPat.dens law05_FieldMissing_af93_6_0_q) : (⟨Pat.encL law05_FieldMissing_af93_6_0_p x, HPat.encL law05_FieldMissing_af93_6_0_q y⟩ : St) = law05_FieldMissing_af93_6_0_enc (law05_FieldMissing_af93_6_0_d x y) := by kernel_rfl
theorem law05_FieldMissing_af93_6_0_r_ok {R : Type} (x : Pat.dens law05_FieldMissing_af93_6_0_p) (y : HPat.dens law05_FieldMissing_af93_6_0_q) (K : Ex → St → Option R) : law05_FieldMissing_af93_6_0_rr (law05_FieldMissing_af93_6_0_L) x y K = law05_FieldMissing_af93_6_0_A K (law05_FieldMissing_af93_6_0_f x y) (law05_FieldMissing_af93_6_0_d x y) := by kernel_rfl
theorem law05_FieldMissing_af93_6_0_ok {R : Type} (other : LSpec R) (ho : LsOk (tt.mode [.fld]) (law05_FieldMissing_af93_E R law05_awake field_Make field_Check) (law05_FieldMissing_af93_T R law05_FieldMissing_af93_6_0_L law05_FieldMissing_af93_13_0_L) 0 ((loopsOf (codeOf Try.f6)).getD 0 .skip) law05_FieldMissing_af93_6_0_h other) : LsOk (tt.mode [.fld]) (law05_FieldMissing_af93_E R law05_awake field_Make field_Check) (law05_FieldMissing_af93_T R law05_FieldMissing_af93_6_0_L law05_FieldMissing_af93_13_0_L) 0 ((loopsOf (codeOf Try.f6)).getD 0 .skip) law05_FieldMissing_af93_6_0_h (loopBy law05_FieldMissing_af93_6_0_p law05_FieldMissing_af93_6_0_q (law05_FieldMissing_af93_6_0_rr (law05_FieldMissing_af93_6_0_L)) other) :=
  loopBy_tie (A := law05_FieldMissing_af93_6_0_A) ho (loop_tie law05_FieldMissing_af93_6_0_enc (law05_FieldMissing_af93_6_0_s) (law05_FieldMissing_af93_6_0_A) (law05_FieldMissing_af93_6_0_A_zero) (law05_FieldMissing_af93_6_0_B_ok law05_awake field_Make field_Check law05_FieldMissing_af93_6_0_L law05_FieldMissing_af93_13_0_L) (law05_FieldMissing_af93_6_0_A_succ)) law05_FieldMissing_af93_6_0_f law05_FieldMissing_af93_6_0_d law05_FieldMissing_af93_6_0_e_ok (law05_FieldMissing_af93_6_0_r_ok)

theorem law05_FieldMissing_af93_13_0_B_ok {R : Type} (law05_awake : law05_awake_ty R) (field_Make : field_Make_ty R) (field_Check : field_Check_ty R) (law05_FieldMissing_af93_6_0_L : law05_FieldMissing_af93_6_0_ty R) (law05_FieldMissing_af93_13_0_L : law05_FieldMissing_af93_13_0_ty R) (K : Ex → St → Option R) (rc : St → Option R) (d : law05_FieldMissing_af93_13_0_D) : roundOf (tt.mode [.fld]) (law05_FieldMissing_af93_E R law05_awake field_Make field_Check) (law05_FieldMissing_af93_T R law05_FieldMissing_af93_6_0_L law05_FieldMissing_af93_13_0_L) 0 ((loopsOf (codeOf Try.f6)).getD 1 .skip) law05_FieldMissing_af93_13_0_h (law05_FieldMissing_af93_13_0_enc d) rc K = law05_FieldMissing_af93_13_0_s K (fun d => rc (law05_FieldMissing_af93_13_0_enc d)) d := by kernel_rfl
theorem law05_FieldMissing_af93_13_0_A_succ {R : Type} (K : Ex → St → Option R) (n : Nat) (d : law05_FieldMissing_af93_13_0_D) : law05_FieldMissing_af93_13_0_A K (n + 1) d = law05_FieldMissing_af93_13_0_s K (law05_FieldMissing_af93_13_0_A K n) d := by kernel_rfl
theorem law05_FieldMissing_af93_13_0_A_zero {R : Type} (K : Ex → St → Option R) (d : law05_FieldMissing_af93_13_0_D) : law05_FieldMissing_af93_13_0_A K 0 d = none := by kernel_rfl
theorem law05_FieldMissing_af93_13_0_e_ok (x : Pat.dens law05_FieldMissing_af93_13_0_p) (y : HPat.dens law05_FieldMissing_af93_13_0_q) : (⟨Pat.encL law05_FieldMissing_af93_13_0_p x, HPat.encL law05_FieldMissing_af93_13_0_q y⟩ : St) = law05_FieldMissing_af93_13_0_enc (law05_FieldMissing_af93_13_0_d x y) := by kernel_rfl
theorem law05_FieldMissing_af93_13_0_r_ok {R : Type} (x : Pat.dens law05_FieldMissing_af93_13_0_p) (y : HPat.dens law05_FieldMissing_af93_13_0_q) (K : Ex → St → Option R) : law05_FieldMissing_af93_13_0_rr (law05_FieldMissing_af93_13_0_L) x y K = law05_FieldMissing_af93_13_0_A K (law05_FieldMissing_af93_13_0_f x y) (law05_FieldMissing_af93_13_0_d x y) := by kernel_rfl
theorem law05_FieldMissing_af93_13_0_ok {R : Type} (other : LSpec R) (ho : LsOk (tt.mode [.fld]) (law05_FieldMissing_af93_E R law05_awake field_Make field_Check) (law05_FieldMissing_af93_T R law05_FieldMissing_af93_6_0_L law05_FieldMissing_af93_13_0_L) 0 ((loopsOf (codeOf Try.f6)).getD 1 .skip) law05_FieldMissing_af93_13_0_h other) : LsOk (tt.mode [.fld]) (law05_FieldMissing_af93_E R law05_awake field_Make field_Check) (law05_FieldMissing_af93_T R law05_FieldMissing_af93_6_0_L law05_FieldMissing_af93_13_0_L) 0 ((loopsOf (codeOf Try.f6)).getD 1 .skip) law05_FieldMissing_af93_13_0_h (loopBy law05_FieldMissing_af93_13_0_p law05_FieldMissing_af93_13_0_q (law05_FieldMissing_af93_13_0_rr (law05_FieldMissing_af93_13_0_L)) other) :=
  loopBy_tie (A := law05_FieldMissing_af93_13_0_A) ho (loop_tie law05_FieldMissing_af93_13_0_enc (law05_FieldMissing_af93_13_0_s) (law05_FieldMissing_af93_13_0_A) (law05_FieldMissing_af93_13_0_A_zero) (law05_FieldMissing_af93_13_0_B_ok law05_awake field_Make field_Check law05_FieldMissing_af93_6_0_L law05_FieldMissing_af93_13_0_L) (law05_FieldMissing_af93_13_0_A_succ)) law05_FieldMissing_af93_13_0_f law05_FieldMissing_af93_13_0_d law05_FieldMissing_af93_13_0_e_ok (law05_FieldMissing_af93_13_0_r_ok)

noncomputable def law05_FieldMissing_af93_X {R : Type} (law05_awake : law05_awake_ty R) (field_Make : field_Make_ty R) (field_Check : field_Check_ty R) (law05_FieldMissing_af93_6_0_L : law05_FieldMissing_af93_6_0_ty R) (law05_FieldMissing_af93_13_0_L : law05_FieldMissing_af93_13_0_ty R) (x1 : List Fld) (k0 : Bool → Option R) : Option R :=
  law05_awake (fun y2 => chk (decide (0 ≤ (min (x1.length : Int) 8)) && decide ((min (x1.length : Int) 8) ≤ x1.length)) (chk (decide (0 ≤ (min (x1.length : Int) 8))) (chk (decide ((0 + ((x1.drop 0).take ((min (x1.length : Int) 8).toNat - 0)).length) * 48 ≤ 140737488355328)) (field_Make ([] : List Str) ([] : List Json) (fun y3 => law05_FieldMissing_af93_6_0_L (Int.natAbs (-1) + Int.natAbs (IntKind.i64.wrap ((((x1.drop 0).take ((min (x1.length : Int) 8).toNat - 0)).length : Int) - 1)) + List.length ((x1.drop 0).take ((min (x1.length : Int) 8).toNat - 0)) + 3) y2 (((x1.drop 0).take ((min (x1.length : Int) 8).toNat - 0)).length) (-1) (IntKind.i64.wrap ((((x1.drop 0).take ((min (x1.length : Int) 8).toNat - 0)).length : Int) - 1)) ((x1.drop 0).take ((min (x1.length : Int) 8).toNat - 0)) (⟨y3.kind, ⟨y3.num.mant, y3.num.exp⟩, y3.text, y3.names, y3.items⟩ : Json) (fun y10 y11 y12 y13 y14 => field_Check (⟨y14.kind, ⟨y14.num.mant, y14.num.exp⟩, y14.text, y14.names, y14.items⟩ : Json) y13 (fun y15 => bif (y15 != y12) then (k0 false) else (law05_FieldMissing_af93_13_0_L (Int.natAbs 0 + List.length y13 + 3) y10 y11 0 y13 (⟨y14.kind, ⟨y14.num.mant, y14.num.exp⟩, y14.text, y14.names, y14.items⟩ : Json) (fun y21 y22 y23 y24 => bif y21 then (field_Check (⟨y24.kind, ⟨y24.num.mant, y24.num.exp⟩, y24.text, y24.names, y24.items⟩ : Json) y23 (fun y25 => k0 (y25 == (-1)))) else (k0 false))))))))))
noncomputable def law05_FieldMissing_af93 {R : Type} : law05_FieldMissing_af93_ty R := fun x1 k0 => law05_FieldMissing_af93_X law05_awake field_Make field_Check law05_FieldMissing_af93_6_0_L law05_FieldMissing_af93_13_0_L x1 k0
theorem law05_FieldMissing_af93_ok {R : Type} (law05_awake : law05_awake_ty R) (field_Make : field_Make_ty R) (field_Check : field_Check_ty R) (law05_FieldMissing_af93_6_0_L : law05_FieldMissing_af93_6_0_ty R) (law05_FieldMissing_af93_13_0_L : law05_FieldMissing_af93_13_0_ty R) (x1 : List Fld) (k : V → Heap → Option R) : funK (tt.mode [.fld]) (law05_FieldMissing_af93_E R law05_awake field_Make field_Check) (law05_FieldMissing_af93_T R law05_FieldMissing_af93_6_0_L law05_FieldMissing_af93_13_0_L) false Try.f6 (codeOf Try.f6) [.sl .fld x1 .no] [] k =
    law05_FieldMissing_af93_X law05_awake field_Make field_Check law05_FieldMissing_af93_6_0_L law05_FieldMissing_af93_13_0_L x1 (fun q0 => k (.bool q0) []) := by kernel_rfl
theorem law05_FieldMissing_af93_loops (R : Type) : ∀ a ∈ loopsOf (codeOf Try.f6), LoopOk (tt.mode [.fld]) (law05_FieldMissing_af93_E R law05_awake field_Make field_Check) (law05_FieldMissing_af93_T R law05_FieldMissing_af93_6_0_L law05_FieldMissing_af93_13_0_L) 0 a := by
  refine loops_ok 2 (by kernel_rfl) fun i hi => ?_
  match i, hi with
  | 0, _ => exact loopOk_some (by kernel_rfl) (law05_FieldMissing_af93_6_0_ok _ loopNo_ok)
  | 1, _ => exact loopOk_some (by kernel_rfl) (law05_FieldMissing_af93_13_0_ok _ loopNo_ok)
  | n + 2, hi => omega
theorem law05_FieldMissing_af93_S_ok (R : Type) (other : Yard.Spec R) (ho : Yard.Spec.Ok Try.prog 6 other) : Yard.Spec.Ok Try.prog 6 (specBy law05_FieldMissing_af93_p law05_FieldMissing_af93_q (law05_FieldMissing_af93_rr law05_FieldMissing_af93) other) :=
  specBy_ok ho (funK_sound (TT.mode [.fld]) mixed (law05_FieldMissing_af93_EOk R) (keep := false) rfl rfl rfl rfl 0 (law05_FieldMissing_af93_loops R)) fun (x : Pat.dens law05_FieldMissing_af93_p) (y : HPat.dens law05_FieldMissing_af93_q) k => law05_FieldMissing_af93_ok law05_awake field_Make field_Check law05_FieldMissing_af93_6_0_L law05_FieldMissing_af93_13_0_L x.1 k

/-! ### humpyard/field.Get$1 -/
abbrev field_Get_1_ty (R : Type) : Type := Json → (Json → Bool → Option R) → Option R
abbrev field_Get_1_p : List Pat := [.agg [.int .i64, .int .i64, .int .i64, .str, .sl .str, .sl .json]]
abbrev field_Get_1_q : List HPat := []
noncomputable def field_Get_1_rr {R : Type} (fn : field_Get_1_ty R) : Pat.dens field_Get_1_p → HPat.dens field_Get_1_q → (V → Heap → Option R) → Option R := fun x y k => fn (⟨x.1.1, ⟨x.1.2.1, x.1.2.2.1⟩, x.1.2.2.2.1, x.1.2.2.2.2.1, x.1.2.2.2.2.2.1⟩ : Json) (fun q0 q1 => k (.tuple [.agg [.int .i64 q0.kind, .int .i64 q0.num.mant, .int .i64 q0.num.exp, .str q0.text, .sl .str q0.names .no, .sl .json q0.items .no], .bool q1]) [])
noncomputable def field_Get_1_E (R : Type) (field_fresh : field_fresh_ty R) : Env R := fun i => match i with
  | 67 => some (true, (specBy field_fresh_p field_fresh_q (field_fresh_rr field_fresh) specNo))
  | _ => none
theorem field_Get_1_EOk (R : Type) : EOk Try.prog (field_Get_1_E R field_fresh) := by
  intro i b sp h
  unfold field_Get_1_E at h
  split at h
  · cases h; exact (field_fresh_S_ok R _ (specNo_ok _))
  · cases h

noncomputable def field_Get_1_T (R : Type) : Nat → Option (Hint × LSpec R) := fun i => match i with
  | _ => none

noncomputable def field_Get_1_X {R : Type} (field_fresh : field_fresh_ty R) (x1 : Json) (k0 : Json → Bool → Option R) : Option R :=
  field_fresh (⟨x1.kind, ⟨x1.num.mant, x1.num.exp⟩, x1.text, x1.names, x1.items⟩ : Json) (fun y2 => k0 (⟨y2.kind, ⟨y2.num.mant, y2.num.exp⟩, y2.text, y2.names, y2.items⟩ : Json) true)
noncomputable def field_Get_1 {R : Type} : field_Get_1_ty R := fun x1 k0 => field_Get_1_X field_fresh x1 k0
theorem field_Get_1_ok {R : Type} (field_fresh : field_fresh_ty R) (x1 : Json) (k : V → Heap → Option R) : funK tt (field_Get_1_E R field_fresh) (field_Get_1_T R) false Try.f71 (codeOf Try.f71) [.agg [.int .i64 x1.kind, .int .i64 x1.num.mant, .int .i64 x1.num.exp, .str x1.text, .sl .str x1.names .no, .sl .json x1.items .no]] [] k =
    field_Get_1_X field_fresh x1 (fun q0 q1 => k (.tuple [.agg [.int .i64 q0.kind, .int .i64 q0.num.mant, .int .i64 q0.num.exp, .str q0.text, .sl .str q0.names .no, .sl .json q0.items .no], .bool q1]) []) := by kernel_rfl
theorem field_Get_1_loops (R : Type) : ∀ a ∈ loopsOf (codeOf Try.f71), LoopOk tt (field_Get_1_E R field_fresh) (field_Get_1_T R) 0 a := by
  refine loops_ok 0 (by kernel_rfl) fun i hi => ?_
  omega
theorem field_Get_1_S_ok (R : Type) (other : Yard.Spec R) (ho : Yard.Spec.Ok Try.prog 71 other) : Yard.Spec.Ok Try.prog 71 (specBy field_Get_1_p field_Get_1_q (field_Get_1_rr field_Get_1) other) :=
  specBy_ok ho (funK_sound TT mixed (field_Get_1_EOk R) (keep := false) rfl rfl rfl rfl 0 (field_Get_1_loops R)) fun (x : Pat.dens field_Get_1_p) (y : HPat.dens field_Get_1_q) k => field_Get_1_ok field_fresh (⟨x.1.1, ⟨x.1.2.1, x.1.2.2.1⟩, x.1.2.2.2.1, x.1.2.2.2.2.1, x.1.2.2.2.2.2.1⟩ : Json) k

/-! ### humpyard/field.of[humpyard/api.Json] -/
abbrev field_of_Json_ebf4_ty (R : Type) : Type := Json → Str → (Json → Bool → Option R) → Option R
abbrev field_of_Json_ebf4_p : List Pat := [.agg [.int .i64, .int .i64, .int .i64, .str, .sl .str, .sl .json], .leaf (.str), .leaf (.fn 71)]
abbrev field_of_Json_ebf4_q : List HPat := []
noncomputable def field_of_Json_ebf4_rr {R : Type} (fn : field_of_Json_ebf4_ty R) : Pat.dens field_of_Json_ebf4_p → HPat.dens field_of_Json_ebf4_q → (V → Heap → Option R) → Option R := fun x y k => fn (⟨x.1.1, ⟨x.1.2.1, x.1.2.2.1⟩, x.1.2.2.2.1, x.1.2.2.2.2.1, x.1.2.2.2.2.2.1⟩ : Json) x.2.1 (fun q0 q1 => k (.tuple [.agg [.int .i64 q0.kind, .int .i64 q0.num.mant, .int .i64 q0.num.exp, .str q0.text, .sl .str q0.names .no, .sl .json q0.items .no], .bool q1]) [])
noncomputable def field_of_Json_ebf4_E (R : Type) (field_find : field_find_ty R) (field_Get_1 : field_Get_1_ty R) : Env R := fun i => match i with
  | 68 => some (true, (specBy field_find_p field_find_q (field_find_rr field_find) specNo))
  | 71 => some (true, (specBy field_Get_1_p field_Get_1_q (field_Get_1_rr field_Get_1) specNo))
  | _ => none
theorem field_of_Json_ebf4_EOk (R : Type) : EOk Try.prog (field_of_Json_ebf4_E R field_find field_Get_1) := by
  intro i b sp h
  unfold field_of_Json_ebf4_E at h
  split at h
  · cases h; exact (field_find_S_ok R _ (specNo_ok _))
  · cases h; exact (field_Get_1_S_ok R _ (specNo_ok _))
  · cases h

noncomputable def field_of_Json_ebf4_T (R : Type) : Nat → Option (Hint × LSpec R) := fun i => match i with
  | _ => none

noncomputable def field_of_Json_ebf4_X {R : Type} (field_find : field_find_ty R) (field_Get_1 : field_Get_1_ty R) (x1 : Json) (x2 : Str) (k0 : Json → Bool → Option R) : Option R :=
  field_find (⟨x1.kind, ⟨x1.num.mant, x1.num.exp⟩, x1.text, x1.names, x1.items⟩ : Json) x2 (fun y3 y4 => bif (!y4) then (k0 (⟨0, ⟨0, 0⟩, ([] : Str), ([] : List Str), ([] : List Json)⟩ : Json) false) else (field_Get_1 (⟨y3.kind, ⟨y3.num.mant, y3.num.exp⟩, y3.text, y3.names, y3.items⟩ : Json) (fun y5 y6 => bif y6 then (k0 (⟨y5.kind, ⟨y5.num.mant, y5.num.exp⟩, y5.text, y5.names, y5.items⟩ : Json) true) else (k0 (⟨0, ⟨0, 0⟩, ([] : Str), ([] : List Str), ([] : List Json)⟩ : Json) false))))
noncomputable def field_of_Json_ebf4 {R : Type} : field_of_Json_ebf4_ty R := fun x1 x2 k0 => field_of_Json_ebf4_X field_find field_Get_1 x1 x2 k0
theorem field_of_Json_ebf4_ok {R : Type} (field_find : field_find_ty R) (field_Get_1 : field_Get_1_ty R) (x1 : Json) (x2 : Str) (k : V → Heap → Option R) : funK tt (field_of_Json_ebf4_E R field_find field_Get_1) (field_of_Json_ebf4_T R) false Try.f70 (codeOf Try.f70) [.agg [.int .i64 x1.kind, .int .i64 x1.num.mant, .int .i64 x1.num.exp, .str x1.text, .sl .str x1.names .no, .sl .json x1.items .no], .str x2, .func 71 [] []] [] k =
    field_of_Json_ebf4_X field_find field_Get_1 x1 x2 (fun q0 q1 => k (.tuple [.agg [.int .i64 q0.kind, .int .i64 q0.num.mant, .int .i64 q0.num.exp, .str q0.text, .sl .str q0.names .no, .sl .json q0.items .no], .bool q1]) []) := by kernel_rfl
theorem field_of_Json_ebf4_loops (R : Type) : ∀ a ∈ loopsOf (codeOf Try.f70), LoopOk tt (field_of_Json_ebf4_E R field_find field_Get_1) (field_of_Json_ebf4_T R) 0 a := by
  refine loops_ok 0 (by kernel_rfl) fun i hi => ?_
  omega
theorem field_of_Json_ebf4_S_ok (R : Type) (other : Yard.Spec R) (ho : Yard.Spec.Ok Try.prog 70 other) : Yard.Spec.Ok Try.prog 70 (specBy field_of_Json_ebf4_p field_of_Json_ebf4_q (field_of_Json_ebf4_rr field_of_Json_ebf4) other) :=
  specBy_ok ho (funK_sound TT mixed (field_of_Json_ebf4_EOk R) (keep := false) rfl rfl rfl rfl 0 (field_of_Json_ebf4_loops R)) fun (x : Pat.dens field_of_Json_ebf4_p) (y : HPat.dens field_of_Json_ebf4_q) k => field_of_Json_ebf4_ok field_find field_Get_1 (⟨x.1.1, ⟨x.1.2.1, x.1.2.2.1⟩, x.1.2.2.2.1, x.1.2.2.2.2.1, x.1.2.2.2.2.2.1⟩ : Json) x.2.1 k

/-! ### humpyard/field.Get -/
abbrev field_Get_ty (R : Type) : Type := Json → Str → (Json → Bool → Option R) → Option R
abbrev field_Get_p : List Pat := [.agg [.int .i64, .int .i64, .int .i64, .str, .sl .str, .sl .json], .leaf (.str)]
abbrev field_Get_q : List HPat := []
noncomputable def field_Get_rr {R : Type} (fn : field_Get_ty R) : Pat.dens field_Get_p → HPat.dens field_Get_q → (V → Heap → Option R) → Option R := fun x y k => fn (⟨x.1.1, ⟨x.1.2.1, x.1.2.2.1⟩, x.1.2.2.2.1, x.1.2.2.2.2.1, x.1.2.2.2.2.2.1⟩ : Json) x.2.1 (fun q0 q1 => k (.tuple [.agg [.int .i64 q0.kind, .int .i64 q0.num.mant, .int .i64 q0.num.exp, .str q0.text, .sl .str q0.names .no, .sl .json q0.items .no], .bool q1]) [])
noncomputable def field_Get_E (R : Type) (field_of_Json_ebf4 : field_of_Json_ebf4_ty R) : Env R := fun i => match i with
  | 70 => some (true, (specBy field_of_Json_ebf4_p field_of_Json_ebf4_q (field_of_Json_ebf4_rr field_of_Json_ebf4) specNo))
  | _ => none
theorem field_Get_EOk (R : Type) : EOk Try.prog (field_Get_E R field_of_Json_ebf4) := by
  intro i b sp h
  unfold field_Get_E at h
  split at h
  · cases h; exact (field_of_Json_ebf4_S_ok R _ (specNo_ok _))
  · cases h

noncomputable def field_Get_T (R : Type) : Nat → Option (Hint × LSpec R) := fun i => match i with
  | _ => none

noncomputable def field_Get_X {R : Type} (field_of_Json_ebf4 : field_of_Json_ebf4_ty R) (x1 : Json) (x2 : Str) (k0 : Json → Bool → Option R) : Option R :=
  field_of_Json_ebf4 (⟨x1.kind, ⟨x1.num.mant, x1.num.exp⟩, x1.text, x1.names, x1.items⟩ : Json) x2 (fun y3 y4 => k0 (⟨y3.kind, ⟨y3.num.mant, y3.num.exp⟩, y3.text, y3.names, y3.items⟩ : Json) y4)
noncomputable def field_Get {R : Type} : field_Get_ty R := fun x1 x2 k0 => field_Get_X field_of_Json_ebf4 x1 x2 k0
theorem field_Get_ok {R : Type} (field_of_Json_ebf4 : field_of_Json_ebf4_ty R) (x1 : Json) (x2 : Str) (k : V → Heap → Option R) : funK tt (field_Get_E R field_of_Json_ebf4) (field_Get_T R) false Try.f26 (codeOf Try.f26) [.agg [.int .i64 x1.kind, .int .i64 x1.num.mant, .int .i64 x1.num.exp, .str x1.text, .sl .str x1.names .no, .sl .json x1.items .no], .str x2] [] k =
    field_Get_X field_of_Json_ebf4 x1 x2 (fun q0 q1 => k (.tuple [.agg [.int .i64 q0.kind, .int .i64 q0.num.mant, .int .i64 q0.num.exp, .str q0.text, .sl .str q0.names .no, .sl .json q0.items .no], .bool q1]) []) := by kernel_rfl
theorem field_Get_loops (R : Type) : ∀ a ∈ loopsOf (codeOf Try.f26), LoopOk tt (field_Get_E R field_of_Json_ebf4) (field_Get_T R) 0 a := by
  refine loops_ok 0 (by kernel_rfl) fun i hi => ?_
  omega
theorem field_Get_S_ok (R : Type) (other : Yard.Spec R) (ho : Yard.Spec.Ok Try.prog 26 other) : Yard.Spec.Ok Try.prog 26 (specBy field_Get_p field_Get_q (field_Get_rr field_Get) other) :=
  specBy_ok ho (funK_sound TT mixed (field_Get_EOk R) (keep := false) rfl rfl rfl rfl 0 (field_Get_loops R)) fun (x : Pat.dens field_Get_p) (y : HPat.dens field_Get_q) k => field_Get_ok field_of_Json_ebf4 (⟨x.1.1, ⟨x.1.2.1, x.1.2.2.1⟩, x.1.2.2.2.1, x.1.2.2.2.2.1, x.1.2.2.2.2.2.1⟩ : Json) x.2.1 k

end Go.Proofs.Ytcocpfgemdkkfaa
