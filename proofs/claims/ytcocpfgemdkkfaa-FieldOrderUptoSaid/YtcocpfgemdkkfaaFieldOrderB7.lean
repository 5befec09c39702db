/-
  FieldOrder: for every input whose bulk is at most 1048576 the law returns true, and each argument reads behind the call as it read before; part 7 of 8 of the proof: an interpreter of the model's code over typed data, proved sound; the functions that the law reaches, printed as Lean functions and tied; the plain law. Own texts laid one behind the other.
-/
import Derived.Test.YtcocpfgemdkkfaaFieldOrderB6
/-
  Functions of the program as pure Lean functions, and the ties; printed by wip/tools/emit.py.
-/
set_option maxRecDepth 100000
set_option linter.unusedVariables false
namespace Go.Proofs.Ytcocpfgemdkkfaa
open Go Go.Yard

/-! ### humpyard/humpyardlaw05.FieldMakes -/
abbrev law05_FieldMakes_ty (R : Type) : Type := (List Str) → (List Raw) → Str → (Bool → Option R) → Option R
abbrev law05_FieldMakes_p : List Pat := [.leaf (.sl .str), .leaf (.sl .raw), .leaf (.str)]
abbrev law05_FieldMakes_q : List HPat := []
noncomputable def law05_FieldMakes_rr {R : Type} (fn : law05_FieldMakes_ty R) : Pat.dens law05_FieldMakes_p → HPat.dens law05_FieldMakes_q → (V → Heap → Option R) → Option R := fun x y k => fn x.1 x.2.1 x.2.2.1 (fun q0 => k (.bool q0) [])
abbrev law05_FieldMakes_4_0_ty (R : Type) : Type := Nat → (List Str) → (List Raw) → Str → Bool → (List Json) → Int → ((List Str) → Str → Bool → (List Json) → Option R) → Option R
abbrev law05_FieldMakes_16_0_ty (R : Type) : Type := Nat → (List Str) → Str → Bool → (List Json) → Int → Bool → Int → Int → Int → Json → ((List Str) → Str → Bool → (List Json) → Int → Bool → Int → Int → Json → Option R) → Option R
abbrev law05_FieldMakes_11_0_ty (R : Type) : Type := Nat → (List Str) → Str → Bool → (List Json) → Int → Bool → Int → Json → (Str → Bool → Bool → Json → Option R) → (Str → Bool → Bool → Bool → Json → Option R) → Option R
noncomputable def law05_FieldMakes_E (R : Type) (law05_awake : law05_awake_ty R) (law04_Fit : law04_Fit_ty R) (field_Make : field_Make_ty R) (field_Get : field_Get_ty R) (ref04_Same : ref04_Same_ty R) : Env R := fun i => match i with
  | 22 => some (true, (specBy law05_awake_p law05_awake_q (law05_awake_rr law05_awake) specNo))
  | 23 => some (true, (specBy law04_Fit_p law04_Fit_q (law04_Fit_rr law04_Fit) specNo))
  | 24 => some (true, (specBy field_Make_p field_Make_q (field_Make_rr field_Make) specNo))
  | 26 => some (true, (specBy field_Get_p field_Get_q (field_Get_rr field_Get) specNo))
  | 27 => some (true, (specBy ref04_Same_p ref04_Same_q (ref04_Same_rr ref04_Same) specNo))
  | _ => none
theorem law05_FieldMakes_EOk (R : Type) : EOk Try.prog (law05_FieldMakes_E R law05_awake law04_Fit field_Make field_Get ref04_Same) := by
  intro i b sp h
  unfold law05_FieldMakes_E at h
  split at h
  · cases h; exact (law05_awake_S_ok R _ (specNo_ok _))
  · cases h; exact (law04_Fit_S_ok R _ (specNo_ok _))
  · cases h; exact (field_Make_S_ok R _ (specNo_ok _))
  · cases h; exact (field_Get_S_ok R _ (specNo_ok _))
  · cases h; exact (ref04_Same_S_ok R _ (specNo_ok _))
  · cases h

noncomputable def law05_FieldMakes_4_0_B {R : Type} (law04_Fit : law04_Fit_ty R) (rec' : (List Str) → (List Raw) → Str → Bool → (List Json) → Int → Option R) (x5 : List Str) (x6 : List Raw) (x7 : Str) (x8 : Bool) (x9 : List Json) (x10 : Int) (e0 : (List Str) → Str → Bool → (List Json) → Option R) : Option R :=
  bif (decide (x10 < (x6.length : Int))) then (bif (decide (x10 < (12 : Int))) then (chk (decide ((0 : Int) ≤ x10) && decide (x10 < x6.length)) (law04_Fit (⟨(x6.getD x10.toNat (Ty.dflt .raw)).kind, (x6.getD x10.toNat (Ty.dflt .raw)).mant, (x6.getD x10.toNat (Ty.dflt .raw)).exp, (x6.getD x10.toNat (Ty.dflt .raw)).text, (x6.getD x10.toNat (Ty.dflt .raw)).items⟩ : Raw) 2 (fun y12 => chk (decide ((x9.length + 1) * 88 ≤ 140737488355328)) (rec' x5 x6 x7 x8 (x9 ++ ([(⟨y12.kind, ⟨y12.num.mant, y12.num.exp⟩, y12.text, y12.names, y12.items⟩ : Json)] : List Json)) (IntKind.i64.wrap (x10 + 1)))))) else (e0 x5 x7 x8 x9)) else (e0 x5 x7 x8 x9)
noncomputable def law05_FieldMakes_4_0_L {R : Type} : law05_FieldMakes_4_0_ty R
  | 0, _, _, _, _, _, _, _ => none
  | n + 1, x0', x1', x2', x3', x4', x5', e0 => law05_FieldMakes_4_0_B law04_Fit (fun x0' x1' x2' x3' x4' x5' => law05_FieldMakes_4_0_L n x0' x1' x2' x3' x4' x5' e0) x0' x1' x2' x3' x4' x5' e0
noncomputable def law05_FieldMakes_4_0_h : Hint := { live := [0, 1, 2, 7, 8, 9], own := [(8, .json)], rows := [], cells := [], drop := [], out := [0, 2, 6, 7, 8] }
abbrev law05_FieldMakes_4_0_D : Type := (List Str) × (List Raw) × Str × Bool × (List Json) × Int
noncomputable def law05_FieldMakes_4_0_enc : law05_FieldMakes_4_0_D → St := fun d => ⟨[.sl .str d.1 .no, .sl .raw d.2.1 .no, .str d.2.2.1, .undef, .undef, .undef, .undef, .bool d.2.2.2.1, .sl .json d.2.2.2.2.1 (.own 0), .int .i64 d.2.2.2.2.2, .undef, .undef, .undef, .undef, .undef, .undef, .undef, .undef, .undef, .undef, .undef, .undef, .undef, .undef, .undef, .undef, .undef, .undef, .undef, .undef, .undef, .undef, .undef, .undef, .undef, .undef, .undef, .undef, .undef, .undef, .undef, .undef, .undef, .undef, .undef, .undef, .undef, .undef, .undef, .undef, .undef, .undef, .undef, .undef, .undef, .undef, .undef, .undef, .undef, .undef, .undef, .undef, .undef, .undef, .undef, .undef, .undef, .undef, .undef, .undef, .undef, .undef, .undef, .undef, .undef, .undef, .undef, .undef, .undef, .undef, .undef, .undef, .undef, .undef, .undef, .undef, .undef, .undef, .undef, .undef, .undef, .undef, .undef, .undef, .undef, .undef, .undef, .undef, .undef, .undef, .undef, .undef, .undef, .undef, .undef, .undef, .undef, .undef, .undef, .undef, .undef, .undef, .undef, .undef, .undef, .undef, .undef, .undef, .undef, .undef, .undef, .undef, .undef], [.tok]⟩
noncomputable def law05_FieldMakes_4_0_x0 {R : Type} (K : Ex → St → Option R) (q0 : List Str) (q1 : Str) (q2 : Bool) (q3 : List Json) : Option R := K (.exit 0) ⟨[.sl .str q0 .no, .undef, .str q1, .undef, .undef, .undef, .undef, .bool q2, .sl .json q3 (.own 0), .undef, .undef, .undef, .undef, .undef, .undef, .undef, .undef, .undef, .undef, .undef, .undef, .undef, .undef, .undef, .undef, .undef, .undef, .undef, .undef, .undef, .undef, .undef, .undef, .undef, .undef, .undef, .undef, .undef, .undef, .undef, .undef, .undef, .undef, .undef, .undef, .undef, .undef, .undef, .undef, .undef, .undef, .undef, .undef, .undef, .undef, .undef, .undef, .undef, .undef, .undef, .undef, .undef, .undef, .undef, .undef, .undef, .undef, .undef, .undef, .undef, .undef, .undef, .undef, .undef, .undef, .undef, .undef, .undef, .undef, .undef, .undef, .undef, .undef, .undef, .undef, .undef, .undef, .undef, .undef, .undef, .undef, .undef, .undef, .undef, .undef, .undef, .undef, .undef, .undef, .undef, .undef, .undef, .undef, .undef, .undef, .undef, .undef, .undef, .undef, .undef, .undef, .undef, .undef, .undef, .undef, .undef, .undef, .undef, .undef, .undef, .undef, .undef, .undef], [.tok]⟩
noncomputable def law05_FieldMakes_4_0_s {R : Type} (law04_Fit : law04_Fit_ty R) (K : Ex → St → Option R) (rc : law05_FieldMakes_4_0_D → Option R) (d : law05_FieldMakes_4_0_D) : Option R := law05_FieldMakes_4_0_B law04_Fit (fun z0 z1 z2 z3 z4 z5 => rc (z0, z1, z2, z3, z4, z5)) d.1 d.2.1 d.2.2.1 d.2.2.2.1 d.2.2.2.2.1 d.2.2.2.2.2 (law05_FieldMakes_4_0_x0 K)
noncomputable def law05_FieldMakes_4_0_A {R : Type} (K : Ex → St → Option R) (n : Nat) (d : law05_FieldMakes_4_0_D) : Option R := law05_FieldMakes_4_0_L n d.1 d.2.1 d.2.2.1 d.2.2.2.1 d.2.2.2.2.1 d.2.2.2.2.2 (law05_FieldMakes_4_0_x0 K)
abbrev law05_FieldMakes_4_0_p : List Pat := [.leaf (.sl .str), .leaf (.sl .raw), .leaf (.str), .leaf (.undef), .leaf (.undef), .leaf (.undef), .leaf (.undef), .leaf (.bool), .leaf (.slo .json 0), .leaf (.int .i64), .leaf (.undef), .leaf (.undef), .leaf (.undef), .leaf (.undef), .leaf (.undef), .leaf (.undef), .leaf (.undef), .leaf (.undef), .leaf (.undef), .leaf (.undef), .leaf (.undef), .leaf (.undef), .leaf (.undef), .leaf (.undef), .leaf (.undef), .leaf (.undef), .leaf (.undef), .leaf (.undef), .leaf (.undef), .leaf (.undef), .leaf (.undef), .leaf (.undef), .leaf (.undef), .leaf (.undef), .leaf (.undef), .leaf (.undef), .leaf (.undef), .leaf (.undef), .leaf (.undef), .leaf (.undef), .leaf (.undef), .leaf (.undef), .leaf (.undef), .leaf (.undef), .leaf (.undef), .leaf (.undef), .leaf (.undef), .leaf (.undef), .leaf (.undef), .leaf (.undef), .leaf (.undef), .leaf (.undef), .leaf (.undef), .leaf (.undef), .leaf (.undef), .leaf (.undef), .leaf (.undef), .leaf (.undef), .leaf (.undef), .leaf (.undef), .leaf (.undef), .leaf (.undef), .leaf (.undef), .leaf (.undef), .leaf (.undef), .leaf (.undef), .leaf (.undef), .leaf (.undef), .leaf (.undef), .leaf (.undef), .leaf (.undef), .leaf (.undef), .leaf (.undef), .leaf (.undef), .leaf (.undef), .leaf (.undef), .leaf (.undef), .leaf (.undef), .leaf (.undef), .leaf (.undef), .leaf (.undef), .leaf (.undef), .leaf (.undef), .leaf (.undef), .leaf (.undef), .leaf (.undef), .leaf (.undef), .leaf (.undef), .leaf (.undef), .leaf (.undef), .leaf (.undef), .leaf (.undef), .leaf (.undef), .leaf (.undef), .leaf (.undef), .leaf (.undef), .leaf (.undef), .leaf (.undef), .leaf (.undef), .leaf (.undef), .leaf (.undef), .leaf (.undef), .leaf (.undef), .leaf (.undef), .leaf (.undef), .leaf (.undef), .leaf (.undef), .leaf (.undef), .leaf (.undef), .leaf (.undef), .leaf (.undef), .leaf (.undef), .leaf (.undef), .leaf (.undef), .leaf (.undef), .leaf (.undef), .leaf (.undef), .leaf (.undef), .leaf (.undef), .leaf (.undef), .leaf (.undef), .leaf (.undef), .leaf (.undef)]
abbrev law05_FieldMakes_4_0_q : List HPat := [.tok]
noncomputable def law05_FieldMakes_4_0_f (x : Pat.dens law05_FieldMakes_4_0_p) (y : HPat.dens law05_FieldMakes_4_0_q) : Nat := (List.length x.1 + List.length x.2.1 + List.length x.2.2.1 + List.length x.2.2.2.2.2.2.2.2.1 + Int.natAbs x.2.2.2.2.2.2.2.2.2.1 + 3)
noncomputable def law05_FieldMakes_4_0_d (x : Pat.dens law05_FieldMakes_4_0_p) (y : HPat.dens law05_FieldMakes_4_0_q) : law05_FieldMakes_4_0_D := (x.1, x.2.1, x.2.2.1, x.2.2.2.2.2.2.2.1, x.2.2.2.2.2.2.2.2.1, x.2.2.2.2.2.2.2.2.2.1)
noncomputable def law05_FieldMakes_4_0_rr {R : Type} (L : law05_FieldMakes_4_0_ty R) : Pat.dens law05_FieldMakes_4_0_p → HPat.dens law05_FieldMakes_4_0_q → (Ex → St → Option R) → Option R := fun x y K => L (law05_FieldMakes_4_0_f x y) x.1 x.2.1 x.2.2.1 x.2.2.2.2.2.2.2.1 x.2.2.2.2.2.2.2.2.1 x.2.2.2.2.2.2.2.2.2.1 (law05_FieldMakes_4_0_x0 K)
noncomputable def law05_FieldMakes_16_0_B {R : Type} (rec' : (List Str) → Str → Bool → (List Json) → Int → Bool → Int → Int → Int → Json → Option R) (x27 : List Str) (x28 : Str) (x29 : Bool) (x30 : List Json) (x31 : Int) (x32 : Bool) (x33 : Int) (x34 : Int) (x35 : Int) (x36 : Json) (e0 : (List Str) → Str → Bool → (List Json) → Int → Bool → Int → Int → Json → Option R) : Option R :=
  bif (decide (x35 ≥ (0 : Int))) then (chk (decide ((0 : Int) ≤ x35) && decide (x35 < x27.length)) (chk (decide ((0 : Int) ≤ x33) && decide (x33 < x27.length)) (bif ((x27.getD x35.toNat (Ty.dflt .str)) == (x27.getD x33.toNat (Ty.dflt .str))) then (rec' x27 x28 x29 x30 x31 x32 x33 x35 (IntKind.i64.wrap (x35 - 1)) (⟨x36.kind, ⟨x36.num.mant, x36.num.exp⟩, x36.text, x36.names, x36.items⟩ : Json)) else (rec' x27 x28 x29 x30 x31 x32 x33 x34 (IntKind.i64.wrap (x35 - 1)) (⟨x36.kind, ⟨x36.num.mant, x36.num.exp⟩, x36.text, x36.names, x36.items⟩ : Json))))) else (e0 x27 x28 x29 x30 x31 x32 x33 x34 (⟨x36.kind, ⟨x36.num.mant, x36.num.exp⟩, x36.text, x36.names, x36.items⟩ : Json))
noncomputable def law05_FieldMakes_16_0_L {R : Type} : law05_FieldMakes_16_0_ty R
  | 0, _, _, _, _, _, _, _, _, _, _, _ => none
  | n + 1, x0', x1', x2', x3', x4', x5', x6', x7', x8', x9', e0 => law05_FieldMakes_16_0_B (fun x0' x1' x2' x3' x4' x5' x6' x7' x8' x9' => law05_FieldMakes_16_0_L n x0' x1' x2' x3' x4' x5' x6' x7' x8' x9' e0) x0' x1' x2' x3' x4' x5' x6' x7' x8' x9' e0
noncomputable def law05_FieldMakes_16_0_h : Hint := { live := [0, 2, 7, 8, 10, 11, 12, 13, 14, 15], own := [], rows := [], cells := [], drop := [], out := [0, 2, 6, 7, 8, 10, 11, 12, 13, 14] }
abbrev law05_FieldMakes_16_0_D : Type := (List Str) × Str × Bool × (List Json) × Int × Bool × Int × Int × Int × Json
noncomputable def law05_FieldMakes_16_0_enc : law05_FieldMakes_16_0_D → St := fun d => ⟨[.sl .str d.1 .no, .undef, .str d.2.1, .undef, .undef, .undef, .undef, .bool d.2.2.1, .sl .json d.2.2.2.1 (.own 0), .undef, .ptr 1 0, .int .i64 d.2.2.2.2.1, .bool d.2.2.2.2.2.1, .int .i64 d.2.2.2.2.2.2.1, .int .i64 d.2.2.2.2.2.2.2.1, .int .i64 d.2.2.2.2.2.2.2.2.1, .undef, .undef, .undef, .undef, .undef, .undef, .undef, .undef, .undef, .undef, .undef, .undef, .undef, .undef, .undef, .undef, .undef, .undef, .undef, .undef, .undef, .undef, .undef, .undef, .undef, .undef, .undef, .undef, .undef, .undef, .undef, .undef, .undef, .undef, .undef, .undef, .undef, .undef, .undef, .undef, .undef, .undef, .undef, .undef, .undef, .undef, .undef, .undef, .undef, .undef, .undef, .undef, .undef, .undef, .undef, .undef, .undef, .undef, .undef, .undef, .undef, .undef, .undef, .undef, .undef, .undef, .undef, .undef, .undef, .undef, .undef, .undef, .undef, .undef, .undef, .undef, .undef, .undef, .undef, .undef, .undef, .undef, .undef, .undef, .undef, .undef, .undef, .undef, .undef, .undef, .undef, .undef, .undef, .undef, .undef, .undef, .undef, .undef, .undef, .undef, .undef, .undef, .undef, .undef, .undef, .undef, .undef], [.tok, .cells [.int .i64 d.2.2.2.2.2.2.2.2.2.kind, .int .i64 d.2.2.2.2.2.2.2.2.2.num.mant, .int .i64 d.2.2.2.2.2.2.2.2.2.num.exp, .str d.2.2.2.2.2.2.2.2.2.text, .sl .str d.2.2.2.2.2.2.2.2.2.names .no, .sl .json d.2.2.2.2.2.2.2.2.2.items .no]]⟩
noncomputable def law05_FieldMakes_16_0_x0 {R : Type} (K : Ex → St → Option R) (q0 : List Str) (q1 : Str) (q2 : Bool) (q3 : List Json) (q4 : Int) (q5 : Bool) (q6 : Int) (q7 : Int) (q8 : Json) : Option R := K (.exit 4) ⟨[.sl .str q0 .no, .undef, .str q1, .undef, .undef, .undef, .undef, .bool q2, .sl .json q3 (.own 0), .undef, .ptr 1 0, .int .i64 q4, .bool q5, .int .i64 q6, .int .i64 q7, .undef, .undef, .undef, .undef, .undef, .undef, .undef, .undef, .undef, .undef, .undef, .undef, .undef, .undef, .undef, .undef, .undef, .undef, .undef, .undef, .undef, .undef, .undef, .undef, .undef, .undef, .undef, .undef, .undef, .undef, .undef, .undef, .undef, .undef, .undef, .undef, .undef, .undef, .undef, .undef, .undef, .undef, .undef, .undef, .undef, .undef, .undef, .undef, .undef, .undef, .undef, .undef, .undef, .undef, .undef, .undef, .undef, .undef, .undef, .undef, .undef, .undef, .undef, .undef, .undef, .undef, .undef, .undef, .undef, .undef, .undef, .undef, .undef, .undef, .undef, .undef, .undef, .undef, .undef, .undef, .undef, .undef, .undef, .undef, .undef, .undef, .undef, .undef, .undef, .undef, .undef, .undef, .undef, .undef, .undef, .undef, .undef, .undef, .undef, .undef, .undef, .undef, .undef, .undef, .undef, .undef, .undef, .undef], [.tok, .cells [.int .i64 q8.kind, .int .i64 q8.num.mant, .int .i64 q8.num.exp, .str q8.text, .sl .str q8.names .no, .sl .json q8.items .no]]⟩
noncomputable def law05_FieldMakes_16_0_s {R : Type} (K : Ex → St → Option R) (rc : law05_FieldMakes_16_0_D → Option R) (d : law05_FieldMakes_16_0_D) : Option R := law05_FieldMakes_16_0_B (fun z0 z1 z2 z3 z4 z5 z6 z7 z8 z9 => rc (z0, z1, z2, z3, z4, z5, z6, z7, z8, z9)) d.1 d.2.1 d.2.2.1 d.2.2.2.1 d.2.2.2.2.1 d.2.2.2.2.2.1 d.2.2.2.2.2.2.1 d.2.2.2.2.2.2.2.1 d.2.2.2.2.2.2.2.2.1 d.2.2.2.2.2.2.2.2.2 (law05_FieldMakes_16_0_x0 K)
noncomputable def law05_FieldMakes_16_0_A {R : Type} (K : Ex → St → Option R) (n : Nat) (d : law05_FieldMakes_16_0_D) : Option R := law05_FieldMakes_16_0_L n d.1 d.2.1 d.2.2.1 d.2.2.2.1 d.2.2.2.2.1 d.2.2.2.2.2.1 d.2.2.2.2.2.2.1 d.2.2.2.2.2.2.2.1 d.2.2.2.2.2.2.2.2.1 d.2.2.2.2.2.2.2.2.2 (law05_FieldMakes_16_0_x0 K)
abbrev law05_FieldMakes_16_0_p : List Pat := [.leaf (.sl .str), .leaf (.undef), .leaf (.str), .leaf (.undef), .leaf (.undef), .leaf (.undef), .leaf (.undef), .leaf (.bool), .leaf (.slo .json 0), .leaf (.undef), .leaf (.ptr 1 0), .leaf (.int .i64), .leaf (.bool), .leaf (.int .i64), .leaf (.int .i64), .leaf (.int .i64), .leaf (.undef), .leaf (.undef), .leaf (.undef), .leaf (.undef), .leaf (.undef), .leaf (.undef), .leaf (.undef), .leaf (.undef), .leaf (.undef), .leaf (.undef), .leaf (.undef), .leaf (.undef), .leaf (.undef), .leaf (.undef), .leaf (.undef), .leaf (.undef), .leaf (.undef), .leaf (.undef), .leaf (.undef), .leaf (.undef), .leaf (.undef), .leaf (.undef), .leaf (.undef), .leaf (.undef), .leaf (.undef), .leaf (.undef), .leaf (.undef), .leaf (.undef), .leaf (.undef), .leaf (.undef), .leaf (.undef), .leaf (.undef), .leaf (.undef), .leaf (.undef), .leaf (.undef), .leaf (.undef), .leaf (.undef), .leaf (.undef), .leaf (.undef), .leaf (.undef), .leaf (.undef), .leaf (.undef), .leaf (.undef), .leaf (.undef), .leaf (.undef), .leaf (.undef), .leaf (.undef), .leaf (.undef), .leaf (.undef), .leaf (.undef), .leaf (.undef), .leaf (.undef), .leaf (.undef), .leaf (.undef), .leaf (.undef), .leaf (.undef), .leaf (.undef), .leaf (.undef), .leaf (.undef), .leaf (.undef), .leaf (.undef), .leaf (.undef), .leaf (.undef), .leaf (.undef), .leaf (.undef), .leaf (.undef), .leaf (.undef), .leaf (.undef), .leaf (.undef), .leaf (.undef), .leaf (.undef), .leaf (.undef), .leaf (.undef), .leaf (.undef), .leaf (.undef), .leaf (.undef), .leaf (.undef), .leaf (.undef), .leaf (.undef), .leaf (.undef), .leaf (.undef), .leaf (.undef), .leaf (.undef), .leaf (.undef), .leaf (.undef), .leaf (.undef), .leaf (.undef), .leaf (.undef), .leaf (.undef), .leaf (.undef), .leaf (.undef), .leaf (.undef), .leaf (.undef), .leaf (.undef), .leaf (.undef), .leaf (.undef), .leaf (.undef), .leaf (.undef), .leaf (.undef), .leaf (.undef), .leaf (.undef), .leaf (.undef), .leaf (.undef), .leaf (.undef), .leaf (.undef), .leaf (.undef), .leaf (.undef)]
abbrev law05_FieldMakes_16_0_q : List HPat := [.tok, .cells [.int .i64, .int .i64, .int .i64, .str, .sl .str, .sl .json]]
noncomputable def law05_FieldMakes_16_0_f (x : Pat.dens law05_FieldMakes_16_0_p) (y : HPat.dens law05_FieldMakes_16_0_q) : Nat := (List.length x.1 + List.length x.2.2.1 + List.length x.2.2.2.2.2.2.2.2.1 + Int.natAbs x.2.2.2.2.2.2.2.2.2.2.2.1 + Int.natAbs x.2.2.2.2.2.2.2.2.2.2.2.2.2.1 + Int.natAbs x.2.2.2.2.2.2.2.2.2.2.2.2.2.2.1 + Int.natAbs x.2.2.2.2.2.2.2.2.2.2.2.2.2.2.2.1 + Json.fu (⟨y.2.1.1, ⟨y.2.1.2.1, y.2.1.2.2.1⟩, y.2.1.2.2.2.1, y.2.1.2.2.2.2.1, y.2.1.2.2.2.2.2.1⟩ : Json) + 3)
noncomputable def law05_FieldMakes_16_0_d (x : Pat.dens law05_FieldMakes_16_0_p) (y : HPat.dens law05_FieldMakes_16_0_q) : law05_FieldMakes_16_0_D := (x.1, x.2.2.1, x.2.2.2.2.2.2.2.1, x.2.2.2.2.2.2.2.2.1, x.2.2.2.2.2.2.2.2.2.2.2.1, x.2.2.2.2.2.2.2.2.2.2.2.2.1, x.2.2.2.2.2.2.2.2.2.2.2.2.2.1, x.2.2.2.2.2.2.2.2.2.2.2.2.2.2.1, x.2.2.2.2.2.2.2.2.2.2.2.2.2.2.2.1, (⟨y.2.1.1, ⟨y.2.1.2.1, y.2.1.2.2.1⟩, y.2.1.2.2.2.1, y.2.1.2.2.2.2.1, y.2.1.2.2.2.2.2.1⟩ : Json))
noncomputable def law05_FieldMakes_16_0_rr {R : Type} (L : law05_FieldMakes_16_0_ty R) : Pat.dens law05_FieldMakes_16_0_p → HPat.dens law05_FieldMakes_16_0_q → (Ex → St → Option R) → Option R := fun x y K => L (law05_FieldMakes_16_0_f x y) x.1 x.2.2.1 x.2.2.2.2.2.2.2.1 x.2.2.2.2.2.2.2.2.1 x.2.2.2.2.2.2.2.2.2.2.2.1 x.2.2.2.2.2.2.2.2.2.2.2.2.1 x.2.2.2.2.2.2.2.2.2.2.2.2.2.1 x.2.2.2.2.2.2.2.2.2.2.2.2.2.2.1 x.2.2.2.2.2.2.2.2.2.2.2.2.2.2.2.1 (⟨y.2.1.1, ⟨y.2.1.2.1, y.2.1.2.2.1⟩, y.2.1.2.2.2.1, y.2.1.2.2.2.2.1, y.2.1.2.2.2.2.2.1⟩ : Json) (law05_FieldMakes_16_0_x0 K)
noncomputable def law05_FieldMakes_11_0_B {R : Type} (field_Get : field_Get_ty R) (ref04_Same : ref04_Same_ty R) (law05_FieldMakes_16_0_L : law05_FieldMakes_16_0_ty R) (rec' : (List Str) → Str → Bool → (List Json) → Int → Bool → Int → Json → Option R) (x18 : List Str) (x19 : Str) (x20 : Bool) (x21 : List Json) (x22 : Int) (x23 : Bool) (x24 : Int) (x25 : Json) (e0 : Str → Bool → Bool → Json → Option R) (e1 : Str → Bool → Bool → Bool → Json → Option R) : Option R :=
  bif (decide (x24 < x22)) then (let j51 := fun (z26 : Bool) => law05_FieldMakes_16_0_L (List.length x18 + List.length x19 + List.length x21 + Int.natAbs x22 + Int.natAbs x24 + Int.natAbs x24 + Int.natAbs x24 + Json.fu (⟨x25.kind, ⟨x25.num.mant, x25.num.exp⟩, x25.text, x25.names, x25.items⟩ : Json) + 3) x18 x19 x20 x21 x22 z26 x24 x24 x24 (⟨x25.kind, ⟨x25.num.mant, x25.num.exp⟩, x25.text, x25.names, x25.items⟩ : Json) (fun y38 y39 y40 y41 y42 y43 y44 y45 y46 => chk (decide ((0 : Int) ≤ y44) && decide (y44 < y38.length)) (field_Get (⟨y46.kind, ⟨y46.num.mant, y46.num.exp⟩, y46.text, y46.names, y46.items⟩ : Json) (y38.getD y44.toNat (Ty.dflt .str)) (fun y47 y48 => bif (!y48) then (e1 y39 false y40 y43 (⟨y46.kind, ⟨y46.num.mant, y46.num.exp⟩, y46.text, y46.names, y46.items⟩ : Json)) else (chk (decide ((0 : Int) ≤ y45) && decide (y45 < y41.length)) (ref04_Same (⟨y47.kind, ⟨y47.num.mant, y47.num.exp⟩, y47.text, y47.names, y47.items⟩ : Json) (⟨(y41.getD y45.toNat (Ty.dflt .json)).kind, ⟨(y41.getD y45.toNat (Ty.dflt .json)).num.mant, (y41.getD y45.toNat (Ty.dflt .json)).num.exp⟩, (y41.getD y45.toNat (Ty.dflt .json)).text, (y41.getD y45.toNat (Ty.dflt .json)).names, (y41.getD y45.toNat (Ty.dflt .json)).items⟩ : Json) (fun y49 => bif (!y49) then (e1 y39 false y40 y43 (⟨y46.kind, ⟨y46.num.mant, y46.num.exp⟩, y46.text, y46.names, y46.items⟩ : Json)) else (rec' y38 y39 y40 y41 y42 y43 (IntKind.i64.wrap (y44 + 1)) (⟨y46.kind, ⟨y46.num.mant, y46.num.exp⟩, y46.text, y46.names, y46.items⟩ : Json)))))))); bif x23 then (j51 true) else (chk (decide ((0 : Int) ≤ x24) && decide (x24 < x18.length)) (j51 ((x18.getD x24.toNat (Ty.dflt .str)) == x19)))) else (e0 x19 x20 x23 (⟨x25.kind, ⟨x25.num.mant, x25.num.exp⟩, x25.text, x25.names, x25.items⟩ : Json))
noncomputable def law05_FieldMakes_11_0_L {R : Type} : law05_FieldMakes_11_0_ty R
  | 0, _, _, _, _, _, _, _, _, _, _ => none
  | n + 1, x0', x1', x2', x3', x4', x5', x6', x7', e0, e1 => law05_FieldMakes_11_0_B field_Get ref04_Same law05_FieldMakes_16_0_L (fun x0' x1' x2' x3' x4' x5' x6' x7' => law05_FieldMakes_11_0_L n x0' x1' x2' x3' x4' x5' x6' x7' e0 e1) x0' x1' x2' x3' x4' x5' x6' x7' e0 e1
noncomputable def law05_FieldMakes_11_0_h : Hint := { live := [0, 2, 7, 8, 10, 11, 12, 13], own := [], rows := [], cells := [], drop := [], out := [2, 6, 7, 10, 12] }
abbrev law05_FieldMakes_11_0_D : Type := (List Str) × Str × Bool × (List Json) × Int × Bool × Int × Json
noncomputable def law05_FieldMakes_11_0_enc : law05_FieldMakes_11_0_D → St := fun d => ⟨[.sl .str d.1 .no, .undef, .str d.2.1, .undef, .undef, .undef, .undef, .bool d.2.2.1, .sl .json d.2.2.2.1 (.own 0), .undef, .ptr 1 0, .int .i64 d.2.2.2.2.1, .bool d.2.2.2.2.2.1, .int .i64 d.2.2.2.2.2.2.1, .undef, .undef, .undef, .undef, .undef, .undef, .undef, .undef, .undef, .undef, .undef, .undef, .undef, .undef, .undef, .undef, .undef, .undef, .undef, .undef, .undef, .undef, .undef, .undef, .undef, .undef, .undef, .undef, .undef, .undef, .undef, .undef, .undef, .undef, .undef, .undef, .undef, .undef, .undef, .undef, .undef, .undef, .undef, .undef, .undef, .undef, .undef, .undef, .undef, .undef, .undef, .undef, .undef, .undef, .undef, .undef, .undef, .undef, .undef, .undef, .undef, .undef, .undef, .undef, .undef, .undef, .undef, .undef, .undef, .undef, .undef, .undef, .undef, .undef, .undef, .undef, .undef, .undef, .undef, .undef, .undef, .undef, .undef, .undef, .undef, .undef, .undef, .undef, .undef, .undef, .undef, .undef, .undef, .undef, .undef, .undef, .undef, .undef, .undef, .undef, .undef, .undef, .undef, .undef, .undef, .undef, .undef, .undef, .undef], [.tok, .cells [.int .i64 d.2.2.2.2.2.2.2.kind, .int .i64 d.2.2.2.2.2.2.2.num.mant, .int .i64 d.2.2.2.2.2.2.2.num.exp, .str d.2.2.2.2.2.2.2.text, .sl .str d.2.2.2.2.2.2.2.names .no, .sl .json d.2.2.2.2.2.2.2.items .no]]⟩
noncomputable def law05_FieldMakes_11_0_x0 {R : Type} (K : Ex → St → Option R) (q0 : Str) (q1 : Bool) (q2 : Bool) (q3 : Json) : Option R := K (.exit 2) ⟨[.undef, .undef, .str q0, .undef, .undef, .undef, .undef, .bool q1, .undef, .undef, .ptr 0 0, .undef, .bool q2, .undef, .undef, .undef, .undef, .undef, .undef, .undef, .undef, .undef, .undef, .undef, .undef, .undef, .undef, .undef, .undef, .undef, .undef, .undef, .undef, .undef, .undef, .undef, .undef, .undef, .undef, .undef, .undef, .undef, .undef, .undef, .undef, .undef, .undef, .undef, .undef, .undef, .undef, .undef, .undef, .undef, .undef, .undef, .undef, .undef, .undef, .undef, .undef, .undef, .undef, .undef, .undef, .undef, .undef, .undef, .undef, .undef, .undef, .undef, .undef, .undef, .undef, .undef, .undef, .undef, .undef, .undef, .undef, .undef, .undef, .undef, .undef, .undef, .undef, .undef, .undef, .undef, .undef, .undef, .undef, .undef, .undef, .undef, .undef, .undef, .undef, .undef, .undef, .undef, .undef, .undef, .undef, .undef, .undef, .undef, .undef, .undef, .undef, .undef, .undef, .undef, .undef, .undef, .undef, .undef, .undef, .undef, .undef, .undef, .undef], [.cells [.int .i64 q3.kind, .int .i64 q3.num.mant, .int .i64 q3.num.exp, .str q3.text, .sl .str q3.names .no, .sl .json q3.items .no]]⟩
noncomputable def law05_FieldMakes_11_0_x1 {R : Type} (K : Ex → St → Option R) (q0 : Str) (q1 : Bool) (q2 : Bool) (q3 : Bool) (q4 : Json) : Option R := K (.ret) ⟨[.undef, .undef, .str q0, .undef, .undef, .undef, .bool q1, .bool q2, .undef, .undef, .ptr 0 0, .undef, .bool q3, .undef, .undef, .undef, .undef, .undef, .undef, .undef, .undef, .undef, .undef, .undef, .undef, .undef, .undef, .undef, .undef, .undef, .undef, .undef, .undef, .undef, .undef, .undef, .undef, .undef, .undef, .undef, .undef, .undef, .undef, .undef, .undef, .undef, .undef, .undef, .undef, .undef, .undef, .undef, .undef, .undef, .undef, .undef, .undef, .undef, .undef, .undef, .undef, .undef, .undef, .undef, .undef, .undef, .undef, .undef, .undef, .undef, .undef, .undef, .undef, .undef, .undef, .undef, .undef, .undef, .undef, .undef, .undef, .undef, .undef, .undef, .undef, .undef, .undef, .undef, .undef, .undef, .undef, .undef, .undef, .undef, .undef, .undef, .undef, .undef, .undef, .undef, .undef, .undef, .undef, .undef, .undef, .undef, .undef, .undef, .undef, .undef, .undef, .undef, .undef, .undef, .undef, .undef, .undef, .undef, .undef, .undef, .undef, .undef, .undef], [.cells [.int .i64 q4.kind, .int .i64 q4.num.mant, .int .i64 q4.num.exp, .str q4.text, .sl .str q4.names .no, .sl .json q4.items .no]]⟩
noncomputable def law05_FieldMakes_11_0_s {R : Type} (field_Get : field_Get_ty R) (ref04_Same : ref04_Same_ty R) (law05_FieldMakes_16_0_L : law05_FieldMakes_16_0_ty R) (K : Ex → St → Option R) (rc : law05_FieldMakes_11_0_D → Option R) (d : law05_FieldMakes_11_0_D) : Option R := law05_FieldMakes_11_0_B field_Get ref04_Same law05_FieldMakes_16_0_L (fun z0 z1 z2 z3 z4 z5 z6 z7 => rc (z0, z1, z2, z3, z4, z5, z6, z7)) d.1 d.2.1 d.2.2.1 d.2.2.2.1 d.2.2.2.2.1 d.2.2.2.2.2.1 d.2.2.2.2.2.2.1 d.2.2.2.2.2.2.2 (law05_FieldMakes_11_0_x0 K) (law05_FieldMakes_11_0_x1 K)
noncomputable def law05_FieldMakes_11_0_A {R : Type} (K : Ex → St → Option R) (n : Nat) (d : law05_FieldMakes_11_0_D) : Option R := law05_FieldMakes_11_0_L n d.1 d.2.1 d.2.2.1 d.2.2.2.1 d.2.2.2.2.1 d.2.2.2.2.2.1 d.2.2.2.2.2.2.1 d.2.2.2.2.2.2.2 (law05_FieldMakes_11_0_x0 K) (law05_FieldMakes_11_0_x1 K)
abbrev law05_FieldMakes_11_0_p : List Pat := [.leaf (.sl .str), .leaf (.undef), .leaf (.str), .leaf (.undef), .leaf (.undef), .leaf (.undef), .leaf (.undef), .leaf (.bool), .leaf (.slo .json 0), .leaf (.undef), .leaf (.ptr 1 0), .leaf (.int .i64), .leaf (.bool), .leaf (.int .i64), .leaf (.undef), .leaf (.undef), .leaf (.undef), .leaf (.undef), .leaf (.undef), .leaf (.undef), .leaf (.undef), .leaf (.undef), .leaf (.undef), .leaf (.undef), .leaf (.undef), .leaf (.undef), .leaf (.undef), .leaf (.undef), .leaf (.undef), .leaf (.undef), .leaf (.undef), .leaf (.undef), .leaf (.undef), .leaf (.undef), .leaf (.undef), .leaf (.undef), .leaf (.undef), .leaf (.undef), .leaf (.undef), .leaf (.undef), .leaf (.undef), .leaf (.undef), .leaf (.undef), .leaf (.undef), .leaf (.undef), .leaf (.undef), .leaf (.undef), .leaf (.undef), .leaf (.undef), .leaf (.undef), .leaf (.undef), .leaf (.undef), .leaf (.undef), .leaf (.undef), .leaf (.undef), .leaf (.undef), .leaf (.undef), .leaf (.undef), .leaf (.undef), .leaf (.undef), .leaf (.undef), .leaf (.undef), .leaf (.undef), .leaf (.undef), .leaf (.undef), .leaf (.undef), .leaf (.undef), .leaf (.undef), .leaf (.undef), .leaf (.undef), .leaf (.undef), .leaf (.undef), .leaf (.undef), .leaf (.undef), .leaf (.undef), .leaf (.undef), .leaf (.undef), .leaf (.undef), .leaf (.undef), .leaf (.undef), .leaf (.undef), .leaf (.undef), .leaf (.undef), .leaf (.undef), .leaf (.undef), .leaf (.undef), .leaf (.undef), .leaf (.undef), .leaf (.undef), .leaf (.undef), .leaf (.undef), .leaf (.undef), .leaf (.undef), .leaf (.undef), .leaf (.undef), .leaf (.undef), .leaf (.undef), .leaf (.undef), .leaf (.undef), .leaf (.undef), .leaf (.undef), .leaf (.undef), .leaf (.undef), .leaf (.undef), .leaf (.undef), .leaf (.undef), .leaf (.undef), .leaf (.undef), .leaf (.undef), .leaf (.undef), .leaf (.undef), .leaf (.undef), .leaf (.undef), .leaf (.undef), .leaf (.undef), .leaf (.undef), .leaf (.undef), .leaf (.undef), .leaf (.undef), .leaf (.undef), .leaf (.undef), .leaf (.undef), .leaf (.undef)]
abbrev law05_FieldMakes_11_0_q : List HPat := [.tok, .cells [.int .i64, .int .i64, .int .i64, .str, .sl .str, .sl .json]]
noncomputable def law05_FieldMakes_11_0_f (x : Pat.dens law05_FieldMakes_11_0_p) (y : HPat.dens law05_FieldMakes_11_0_q) : Nat := (List.length x.1 + List.length x.2.2.1 + List.length x.2.2.2.2.2.2.2.2.1 + Int.natAbs x.2.2.2.2.2.2.2.2.2.2.2.1 + Int.natAbs x.2.2.2.2.2.2.2.2.2.2.2.2.2.1 + Json.fu (⟨y.2.1.1, ⟨y.2.1.2.1, y.2.1.2.2.1⟩, y.2.1.2.2.2.1, y.2.1.2.2.2.2.1, y.2.1.2.2.2.2.2.1⟩ : Json) + 3)
noncomputable def law05_FieldMakes_11_0_d (x : Pat.dens law05_FieldMakes_11_0_p) (y : HPat.dens law05_FieldMakes_11_0_q) : law05_FieldMakes_11_0_D := (x.1, x.2.2.1, x.2.2.2.2.2.2.2.1, x.2.2.2.2.2.2.2.2.1, x.2.2.2.2.2.2.2.2.2.2.2.1, x.2.2.2.2.2.2.2.2.2.2.2.2.1, x.2.2.2.2.2.2.2.2.2.2.2.2.2.1, (⟨y.2.1.1, ⟨y.2.1.2.1, y.2.1.2.2.1⟩, y.2.1.2.2.2.1, y.2.1.2.2.2.2.1, y.2.1.2.2.2.2.2.1⟩ : Json))
noncomputable def law05_FieldMakes_11_0_rr {R : Type} (L : law05_FieldMakes_11_0_ty R) : Pat.dens law05_FieldMakes_11_0_p → HPat.dens law05_FieldMakes_11_0_q → (Ex → St → Option R) → Option R := fun x y K => L (law05_FieldMakes_11_0_f x y) x.1 x.2.2.1 x.2.2.2.2.2.2.2.1 x.2.2.2.2.2.2.2.2.1 x.2.2.2.2.2.2.2.2.2.2.2.1 x.2.2.2.2.2.2.2.2.2.2.2.2.1 x.2.2.2.2.2.2.2.2.2.2.2.2.2.1 (⟨y.2.1.1, ⟨y.2.1.2.1, y.2.1.2.2.1⟩, y.2.1.2.2.2.1, y.2.1.2.2.2.2.1, y.2.1.2.2.2.2.2.1⟩ : Json) (law05_FieldMakes_11_0_x0 K) (law05_FieldMakes_11_0_x1 K)
noncomputable def law05_FieldMakes_T (R : Type) (law05_FieldMakes_4_0_L : law05_FieldMakes_4_0_ty R) (law05_FieldMakes_16_0_L : law05_FieldMakes_16_0_ty R) (law05_FieldMakes_11_0_L : law05_FieldMakes_11_0_ty R) : Nat → Option (Hint × LSpec R) := fun i => match i with
  | 4 => some (law05_FieldMakes_4_0_h, (loopBy law05_FieldMakes_4_0_p law05_FieldMakes_4_0_q (law05_FieldMakes_4_0_rr law05_FieldMakes_4_0_L) loopNo))
  | 11 => some (law05_FieldMakes_11_0_h, (loopBy law05_FieldMakes_11_0_p law05_FieldMakes_11_0_q (law05_FieldMakes_11_0_rr law05_FieldMakes_11_0_L) loopNo))
  | 16 => some (law05_FieldMakes_16_0_h, (loopBy law05_FieldMakes_16_0_p law05_FieldMakes_16_0_q (law05_FieldMakes_16_0_rr law05_FieldMakes_16_0_L) loopNo))
  | _ => none

theorem law05_FieldMakes_4_0_B_ok {R : Type} (law05_awake : law05_awake_ty R) (law04_Fit : law04_Fit_ty R) (field_Make : field_Make_ty R) (field_Get : field_Get_ty R) (ref04_Same : ref04_Same_ty R) (law05_FieldMakes_4_0_L : law05_FieldMakes_4_0_ty R) (law05_FieldMakes_16_0_L : law05_FieldMakes_16_0_ty R) (law05_FieldMakes_11_0_L : law05_FieldMakes_11_0_ty R) (K : Ex → St → Option R) (rc : St → Option R) (d : law05_FieldMakes_4_0_D) : roundOf tt (law05_FieldMakes_E R law05_awake law04_Fit field_Make field_Get ref04_Same) (law05_FieldMakes_T R law05_FieldMakes_4_0_L law05_FieldMakes_16_0_L law05_FieldMakes_11_0_L) 0 ((loopsOf (codeOf Try.f7)).getD 0 .skip) law05_FieldMakes_4_0_h (law05_FieldMakes_4_0_enc d) rc K = law05_FieldMakes_4_0_s law04_Fit K (fun d => rc (law05_FieldMakes_4_0_enc d)) d := by kernel_rfl
theorem law05_FieldMakes_4_0_A_succ {R : Type} (K : Ex → St → Option R) (n : Nat) (d : law05_FieldMakes_4_0_D) : law05_FieldMakes_4_0_A K (n + 1) d = law05_FieldMakes_4_0_s law04_Fit K (law05_FieldMakes_4_0_A K n) d := by kernel_rfl
theorem law05_FieldMakes_4_0_A_zero {R : Type} (K : Ex → St → Option R) (d : law05_FieldMakes_4_0_D) : law05_FieldMakes_4_0_A K 0 d = none := by kernel_rfl
theorem law05_FieldMakes_4_0_e_ok (x : Pat.dens law05_FieldMakes_4_0_p) (y : HPat.dens law05_FieldMakes_4_0_q) : (⟨Pat.encL law05_FieldMakes_4_0_p x, HPat.encL law05_FieldMakes_4_0_q y⟩ : St) = law05_FieldMakes_4_0_enc (law05_FieldMakes_4_0_d x y) := by kernel_rfl
theorem law05_FieldMakes_4_0_r_ok {R : Type} (x : Pat.dens law05_FieldMakes_4_0_p) (y : HPat.dens law05_FieldMakes_4_0_q) (K : Ex → St → Option R) : law05_FieldMakes_4_0_rr (law05_FieldMakes_4_0_L) x y K = law05_FieldMakes_4_0_A K (law05_FieldMakes_4_0_f x y) (law05_FieldMakes_4_0_d x y) := by kernel_rfl
theorem law05_FieldMakes_4_0_ok {R : Type} (other : LSpec R) (ho : LsOk tt (law05_FieldMakes_E R law05_awake law04_Fit field_Make field_Get ref04_Same) (law05_FieldMakes_T R law05_FieldMakes_4_0_L law05_FieldMakes_16_0_L law05_FieldMakes_11_0_L) 0 ((loopsOf (codeOf Try.f7)).getD 0 .skip) law05_FieldMakes_4_0_h other) : LsOk tt (law05_FieldMakes_E R law05_awake law04_Fit field_Make field_Get ref04_Same) (law05_FieldMakes_T R law05_FieldMakes_4_0_L law05_FieldMakes_16_0_L law05_FieldMakes_11_0_L) 0 ((loopsOf (codeOf Try.f7)).getD 0 .skip) law05_FieldMakes_4_0_h (loopBy law05_FieldMakes_4_0_p law05_FieldMakes_4_0_q (law05_FieldMakes_4_0_rr (law05_FieldMakes_4_0_L)) other) :=
  loopBy_tie (A := law05_FieldMakes_4_0_A) ho (loop_tie law05_FieldMakes_4_0_enc (law05_FieldMakes_4_0_s law04_Fit) (law05_FieldMakes_4_0_A) (law05_FieldMakes_4_0_A_zero) (law05_FieldMakes_4_0_B_ok law05_awake law04_Fit field_Make field_Get ref04_Same law05_FieldMakes_4_0_L law05_FieldMakes_16_0_L law05_FieldMakes_11_0_L) (law05_FieldMakes_4_0_A_succ)) law05_FieldMakes_4_0_f law05_FieldMakes_4_0_d law05_FieldMakes_4_0_e_ok (law05_FieldMakes_4_0_r_ok)

theorem law05_FieldMakes_16_0_B_ok {R : Type} (law05_awake : law05_awake_ty R) (law04_Fit : law04_Fit_ty R) (field_Make : field_Make_ty R) (field_Get : field_Get_ty R) (ref04_Same : ref04_Same_ty R) (law05_FieldMakes_4_0_L : law05_FieldMakes_4_0_ty R) (law05_FieldMakes_16_0_L : law05_FieldMakes_16_0_ty R) (law05_FieldMakes_11_0_L : law05_FieldMakes_11_0_ty R) (K : Ex → St → Option R) (rc : St → Option R) (d : law05_FieldMakes_16_0_D) : roundOf tt (law05_FieldMakes_E R law05_awake law04_Fit field_Make field_Get ref04_Same) (law05_FieldMakes_T R law05_FieldMakes_4_0_L law05_FieldMakes_16_0_L law05_FieldMakes_11_0_L) 0 ((loopsOf (codeOf Try.f7)).getD 2 .skip) law05_FieldMakes_16_0_h (law05_FieldMakes_16_0_enc d) rc K = law05_FieldMakes_16_0_s K (fun d => rc (law05_FieldMakes_16_0_enc d)) d := by kernel_rfl
theorem law05_FieldMakes_16_0_A_succ {R : Type} (K : Ex → St → Option R) (n : Nat) (d : law05_FieldMakes_16_0_D) : law05_FieldMakes_16_0_A K (n + 1) d = law05_FieldMakes_16_0_s K (law05_FieldMakes_16_0_A K n) d := by kernel_rfl
theorem law05_FieldMakes_16_0_A_zero {R : Type} (K : Ex → St → Option R) (d : law05_FieldMakes_16_0_D) : law05_FieldMakes_16_0_A K 0 d = none := by kernel_rfl
theorem law05_FieldMakes_16_0_e_ok (x : Pat.dens law05_FieldMakes_16_0_p) (y : HPat.dens law05_FieldMakes_16_0_q) : (⟨Pat.encL law05_FieldMakes_16_0_p x, HPat.encL law05_FieldMakes_16_0_q y⟩ : St) = law05_FieldMakes_16_0_enc (law05_FieldMakes_16_0_d x y) := by kernel_rfl
theorem law05_FieldMakes_16_0_r_ok {R : Type} (x : Pat.dens law05_FieldMakes_16_0_p) (y : HPat.dens law05_FieldMakes_16_0_q) (K : Ex → St → Option R) : law05_FieldMakes_16_0_rr (law05_FieldMakes_16_0_L) x y K = law05_FieldMakes_16_0_A K (law05_FieldMakes_16_0_f x y) (law05_FieldMakes_16_0_d x y) := by kernel_rfl
theorem law05_FieldMakes_16_0_ok {R : Type} (other : LSpec R) (ho : LsOk tt (law05_FieldMakes_E R law05_awake law04_Fit field_Make field_Get ref04_Same) (law05_FieldMakes_T R law05_FieldMakes_4_0_L law05_FieldMakes_16_0_L law05_FieldMakes_11_0_L) 0 ((loopsOf (codeOf Try.f7)).getD 2 .skip) law05_FieldMakes_16_0_h other) : LsOk tt (law05_FieldMakes_E R law05_awake law04_Fit field_Make field_Get ref04_Same) (law05_FieldMakes_T R law05_FieldMakes_4_0_L law05_FieldMakes_16_0_L law05_FieldMakes_11_0_L) 0 ((loopsOf (codeOf Try.f7)).getD 2 .skip) law05_FieldMakes_16_0_h (loopBy law05_FieldMakes_16_0_p law05_FieldMakes_16_0_q (law05_FieldMakes_16_0_rr (law05_FieldMakes_16_0_L)) other) :=
  loopBy_tie (A := law05_FieldMakes_16_0_A) ho (loop_tie law05_FieldMakes_16_0_enc (law05_FieldMakes_16_0_s) (law05_FieldMakes_16_0_A) (law05_FieldMakes_16_0_A_zero) (law05_FieldMakes_16_0_B_ok law05_awake law04_Fit field_Make field_Get ref04_Same law05_FieldMakes_4_0_L law05_FieldMakes_16_0_L law05_FieldMakes_11_0_L) (law05_FieldMakes_16_0_A_succ)) law05_FieldMakes_16_0_f law05_FieldMakes_16_0_d law05_FieldMakes_16_0_e_ok (law05_FieldMakes_16_0_r_ok)

theorem law05_FieldMakes_11_0_B_ok {R : Type} (law05_awake : law05_awake_ty R) (law04_Fit : law04_Fit_ty R) (field_Make : field_Make_ty R) (field_Get : field_Get_ty R) (ref04_Same : ref04_Same_ty R) (law05_FieldMakes_4_0_L : law05_FieldMakes_4_0_ty R) (law05_FieldMakes_16_0_L : law05_FieldMakes_16_0_ty R) (law05_FieldMakes_11_0_L : law05_FieldMakes_11_0_ty R) (K : Ex → St → Option R) (rc : St → Option R) (d : law05_FieldMakes_11_0_D) : roundOf tt (law05_FieldMakes_E R law05_awake law04_Fit field_Make field_Get ref04_Same) (law05_FieldMakes_T R law05_FieldMakes_4_0_L law05_FieldMakes_16_0_L law05_FieldMakes_11_0_L) 0 ((loopsOf (codeOf Try.f7)).getD 1 .skip) law05_FieldMakes_11_0_h (law05_FieldMakes_11_0_enc d) rc K = law05_FieldMakes_11_0_s field_Get ref04_Same law05_FieldMakes_16_0_L K (fun d => rc (law05_FieldMakes_11_0_enc d)) d := by kernel_rfl
theorem law05_FieldMakes_11_0_A_succ {R : Type} (K : Ex → St → Option R) (n : Nat) (d : law05_FieldMakes_11_0_D) : law05_FieldMakes_11_0_A K (n + 1) d = law05_FieldMakes_11_0_s field_Get ref04_Same law05_FieldMakes_16_0_L K (law05_FieldMakes_11_0_A K n) d := by kernel_rfl
theorem law05_FieldMakes_11_0_A_zero {R : Type} (K : Ex → St → Option R) (d : law05_FieldMakes_11_0_D) : law05_FieldMakes_11_0_A K 0 d = none := by kernel_rfl
theorem law05_FieldMakes_11_0_e_ok (x : Pat.dens law05_FieldMakes_11_0_p) (y : HPat.dens law05_FieldMakes_11_0_q) : (⟨Pat.encL law05_FieldMakes_11_0_p x, HPat.encL law05_FieldMakes_11_0_q y⟩ : St) = law05_FieldMakes_11_0_enc (law05_FieldMakes_11_0_d x y) := by kernel_rfl
theorem law05_FieldMakes_11_0_r_ok {R : Type} (x : Pat.dens law05_FieldMakes_11_0_p) (y : HPat.dens law05_FieldMakes_11_0_q) (K : Ex → St → Option R) : law05_FieldMakes_11_0_rr (law05_FieldMakes_11_0_L) x y K = law05_FieldMakes_11_0_A K (law05_FieldMakes_11_0_f x y) (law05_FieldMakes_11_0_d x y) := by kernel_rfl
theorem law05_FieldMakes_11_0_ok {R : Type} (other : LSpec R) (ho : LsOk tt (law05_FieldMakes_E R law05_awake law04_Fit field_Make field_Get ref04_Same) (law05_FieldMakes_T R law05_FieldMakes_4_0_L law05_FieldMakes_16_0_L law05_FieldMakes_11_0_L) 0 ((loopsOf (codeOf Try.f7)).getD 1 .skip) law05_FieldMakes_11_0_h other) : LsOk tt (law05_FieldMakes_E R law05_awake law04_Fit field_Make field_Get ref04_Same) (law05_FieldMakes_T R law05_FieldMakes_4_0_L law05_FieldMakes_16_0_L law05_FieldMakes_11_0_L) 0 ((loopsOf (codeOf Try.f7)).getD 1 .skip) law05_FieldMakes_11_0_h (loopBy law05_FieldMakes_11_0_p law05_FieldMakes_11_0_q (law05_FieldMakes_11_0_rr (law05_FieldMakes_11_0_L)) other) :=
  loopBy_tie (A := law05_FieldMakes_11_0_A) ho (loop_tie law05_FieldMakes_11_0_enc (law05_FieldMakes_11_0_s field_Get ref04_Same law05_FieldMakes_16_0_L) (law05_FieldMakes_11_0_A) (law05_FieldMakes_11_0_A_zero) (law05_FieldMakes_11_0_B_ok law05_awake law04_Fit field_Make field_Get ref04_Same law05_FieldMakes_4_0_L law05_FieldMakes_16_0_L law05_FieldMakes_11_0_L) (law05_FieldMakes_11_0_A_succ)) law05_FieldMakes_11_0_f law05_FieldMakes_11_0_d law05_FieldMakes_11_0_e_ok (law05_FieldMakes_11_0_r_ok)

noncomputable def law05_FieldMakes_X {R : Type} (law05_awake : law05_awake_ty R) (field_Make : field_Make_ty R) (field_Get : field_Get_ty R) (law05_FieldMakes_4_0_L : law05_FieldMakes_4_0_ty R) (law05_FieldMakes_11_0_L : law05_FieldMakes_11_0_ty R) (x1 : List Str) (x2 : List Raw) (x3 : Str) (k0 : Bool → Option R) : Option R :=
  law05_awake (fun y4 => law05_FieldMakes_4_0_L (List.length x1 + List.length x2 + List.length x3 + List.length ([] : List Json) + Int.natAbs 0 + 3) x1 x2 x3 y4 ([] : List Json) 0 (fun y13 y14 y15 y16 => field_Make y13 y16 (fun y17 => law05_FieldMakes_11_0_L (List.length y13 + List.length y14 + List.length y16 + Int.natAbs (min (y13.length : Int) (y16.length : Int)) + Int.natAbs 0 + Json.fu (⟨y17.kind, ⟨y17.num.mant, y17.num.exp⟩, y17.text, y17.names, y17.items⟩ : Json) + 3) y13 y14 y15 y16 (min (y13.length : Int) (y16.length : Int)) false 0 (⟨y17.kind, ⟨y17.num.mant, y17.num.exp⟩, y17.text, y17.names, y17.items⟩ : Json) (fun y52 y53 y54 y55 => field_Get (⟨y55.kind, ⟨y55.num.mant, y55.num.exp⟩, y55.text, y55.names, y55.items⟩ : Json) y52 (fun y61 y62 => bif y53 then (bif (y55.kind == 7) then (bif ((y55.names.length : Int) == (y55.items.length : Int)) then (k0 (y62 == y54)) else (k0 false)) else (k0 false)) else (k0 false))) (fun y56 y57 y58 y59 y60 => k0 y57))))
noncomputable def law05_FieldMakes {R : Type} : law05_FieldMakes_ty R := fun x1 x2 x3 k0 => law05_FieldMakes_X law05_awake field_Make field_Get law05_FieldMakes_4_0_L law05_FieldMakes_11_0_L x1 x2 x3 k0
theorem law05_FieldMakes_ok {R : Type} (law05_awake : law05_awake_ty R) (law04_Fit : law04_Fit_ty R) (field_Make : field_Make_ty R) (field_Get : field_Get_ty R) (ref04_Same : ref04_Same_ty R) (law05_FieldMakes_4_0_L : law05_FieldMakes_4_0_ty R) (law05_FieldMakes_16_0_L : law05_FieldMakes_16_0_ty R) (law05_FieldMakes_11_0_L : law05_FieldMakes_11_0_ty R) (x1 : List Str) (x2 : List Raw) (x3 : Str) (k : V → Heap → Option R) : funK tt (law05_FieldMakes_E R law05_awake law04_Fit field_Make field_Get ref04_Same) (law05_FieldMakes_T R law05_FieldMakes_4_0_L law05_FieldMakes_16_0_L law05_FieldMakes_11_0_L) false Try.f7 (codeOf Try.f7) [.sl .str x1 .no, .sl .raw x2 .no, .str x3] [] k =
    law05_FieldMakes_X law05_awake field_Make field_Get law05_FieldMakes_4_0_L law05_FieldMakes_11_0_L x1 x2 x3 (fun q0 => k (.bool q0) []) := by kernel_rfl
theorem law05_FieldMakes_loops (R : Type) : ∀ a ∈ loopsOf (codeOf Try.f7), LoopOk tt (law05_FieldMakes_E R law05_awake law04_Fit field_Make field_Get ref04_Same) (law05_FieldMakes_T R law05_FieldMakes_4_0_L law05_FieldMakes_16_0_L law05_FieldMakes_11_0_L) 0 a := by
  refine loops_ok 3 (by kernel_rfl) fun i hi => ?_
  match i, hi with
  | 0, _ => exact loopOk_some (by kernel_rfl) (law05_FieldMakes_4_0_ok _ loopNo_ok)
  | 1, _ => exact loopOk_some (by kernel_rfl) (law05_FieldMakes_11_0_ok _ loopNo_ok)
  | 2, _ => exact loopOk_some (by kernel_rfl) (law05_FieldMakes_16_0_ok _ loopNo_ok)
  | n + 3, hi => omega
theorem law05_FieldMakes_S_ok (R : Type) (other : Yard.Spec R) (ho : Yard.Spec.Ok Try.prog 7 other) : Yard.Spec.Ok Try.prog 7 (specBy law05_FieldMakes_p law05_FieldMakes_q (law05_FieldMakes_rr law05_FieldMakes) other) :=
  specBy_ok ho (funK_sound TT mixed (law05_FieldMakes_EOk R) (keep := false) rfl rfl rfl rfl 0 (law05_FieldMakes_loops R)) fun (x : Pat.dens law05_FieldMakes_p) (y : HPat.dens law05_FieldMakes_q) k => law05_FieldMakes_ok law05_awake law04_Fit field_Make field_Get ref04_Same law05_FieldMakes_4_0_L law05_FieldMakes_16_0_L law05_FieldMakes_11_0_L x.1 x.2.1 x.2.2.1 k

/-! ### humpyard/field.of[bool] -/
abbrev field_of_bool_775c_ty (R : Type) : Type := Json → Str → (Bool → Bool → Option R) → Option R
abbrev field_of_bool_775c_p : List Pat := [.agg [.int .i64, .int .i64, .int .i64, .str, .sl .str, .sl .json], .leaf (.str), .leaf (.fn 77)]
abbrev field_of_bool_775c_q : List HPat := []
noncomputable def field_of_bool_775c_rr {R : Type} (fn : field_of_bool_775c_ty R) : Pat.dens field_of_bool_775c_p → HPat.dens field_of_bool_775c_q → (V → Heap → Option R) → Option R := fun x y k => fn (⟨x.1.1, ⟨x.1.2.1, x.1.2.2.1⟩, x.1.2.2.2.1, x.1.2.2.2.2.1, x.1.2.2.2.2.2.1⟩ : Json) x.2.1 (fun q0 q1 => k (.tuple [.bool q0, .bool q1]) [])
noncomputable def field_of_bool_775c_E (R : Type) (field_find : field_find_ty R) (field_flag : field_flag_ty R) : Env R := fun i => match i with
  | 68 => some (true, (specBy field_find_p field_find_q (field_find_rr field_find) specNo))
  | 77 => some (true, (specBy field_flag_p field_flag_q (field_flag_rr field_flag) specNo))
  | _ => none
theorem field_of_bool_775c_EOk (R : Type) : EOk Try.prog (field_of_bool_775c_E R field_find field_flag) := by
  intro i b sp h
  unfold field_of_bool_775c_E at h
  split at h
  · cases h; exact (field_find_S_ok R _ (specNo_ok _))
  · cases h; exact (field_flag_S_ok R _ (specNo_ok _))
  · cases h

noncomputable def field_of_bool_775c_T (R : Type) : Nat → Option (Hint × LSpec R) := fun i => match i with
  | _ => none

noncomputable def field_of_bool_775c_X {R : Type} (field_find : field_find_ty R) (field_flag : field_flag_ty R) (x1 : Json) (x2 : Str) (k0 : Bool → Bool → Option R) : Option R :=
  field_find (⟨x1.kind, ⟨x1.num.mant, x1.num.exp⟩, x1.text, x1.names, x1.items⟩ : Json) x2 (fun y3 y4 => bif (!y4) then (k0 false false) else (field_flag (⟨y3.kind, ⟨y3.num.mant, y3.num.exp⟩, y3.text, y3.names, y3.items⟩ : Json) (fun y5 y6 => bif y6 then (k0 y5 true) else (k0 false false))))
noncomputable def field_of_bool_775c {R : Type} : field_of_bool_775c_ty R := fun x1 x2 k0 => field_of_bool_775c_X field_find field_flag x1 x2 k0
theorem field_of_bool_775c_ok {R : Type} (field_find : field_find_ty R) (field_flag : field_flag_ty R) (x1 : Json) (x2 : Str) (k : V → Heap → Option R) : funK tt (field_of_bool_775c_E R field_find field_flag) (field_of_bool_775c_T R) false Try.f76 (codeOf Try.f76) [.agg [.int .i64 x1.kind, .int .i64 x1.num.mant, .int .i64 x1.num.exp, .str x1.text, .sl .str x1.names .no, .sl .json x1.items .no], .str x2, .func 77 [] []] [] k =
    field_of_bool_775c_X field_find field_flag x1 x2 (fun q0 q1 => k (.tuple [.bool q0, .bool q1]) []) := by kernel_rfl
theorem field_of_bool_775c_loops (R : Type) : ∀ a ∈ loopsOf (codeOf Try.f76), LoopOk tt (field_of_bool_775c_E R field_find field_flag) (field_of_bool_775c_T R) 0 a := by
  refine loops_ok 0 (by kernel_rfl) fun i hi => ?_
  omega
theorem field_of_bool_775c_S_ok (R : Type) (other : Yard.Spec R) (ho : Yard.Spec.Ok Try.prog 76 other) : Yard.Spec.Ok Try.prog 76 (specBy field_of_bool_775c_p field_of_bool_775c_q (field_of_bool_775c_rr field_of_bool_775c) other) :=
  specBy_ok ho (funK_sound TT mixed (field_of_bool_775c_EOk R) (keep := false) rfl rfl rfl rfl 0 (field_of_bool_775c_loops R)) fun (x : Pat.dens field_of_bool_775c_p) (y : HPat.dens field_of_bool_775c_q) k => field_of_bool_775c_ok field_find field_flag (⟨x.1.1, ⟨x.1.2.1, x.1.2.2.1⟩, x.1.2.2.2.1, x.1.2.2.2.2.1, x.1.2.2.2.2.2.1⟩ : Json) x.2.1 k

/-! ### humpyard/field.Flag -/
abbrev field_Flag_ty (R : Type) : Type := Json → Str → (Bool → Bool → Option R) → Option R
abbrev field_Flag_p : List Pat := [.agg [.int .i64, .int .i64, .int .i64, .str, .sl .str, .sl .json], .leaf (.str)]
abbrev field_Flag_q : List HPat := []
noncomputable def field_Flag_rr {R : Type} (fn : field_Flag_ty R) : Pat.dens field_Flag_p → HPat.dens field_Flag_q → (V → Heap → Option R) → Option R := fun x y k => fn (⟨x.1.1, ⟨x.1.2.1, x.1.2.2.1⟩, x.1.2.2.2.1, x.1.2.2.2.2.1, x.1.2.2.2.2.2.1⟩ : Json) x.2.1 (fun q0 q1 => k (.tuple [.bool q0, .bool q1]) [])
noncomputable def field_Flag_E (R : Type) (field_of_bool_775c : field_of_bool_775c_ty R) : Env R := fun i => match i with
  | 76 => some (true, (specBy field_of_bool_775c_p field_of_bool_775c_q (field_of_bool_775c_rr field_of_bool_775c) specNo))
  | _ => none
theorem field_Flag_EOk (R : Type) : EOk Try.prog (field_Flag_E R field_of_bool_775c) := by
  intro i b sp h
  unfold field_Flag_E at h
  split at h
  · cases h; exact (field_of_bool_775c_S_ok R _ (specNo_ok _))
  · cases h

noncomputable def field_Flag_T (R : Type) : Nat → Option (Hint × LSpec R) := fun i => match i with
  | _ => none

noncomputable def field_Flag_X {R : Type} (field_of_bool_775c : field_of_bool_775c_ty R) (x1 : Json) (x2 : Str) (k0 : Bool → Bool → Option R) : Option R :=
  field_of_bool_775c (⟨x1.kind, ⟨x1.num.mant, x1.num.exp⟩, x1.text, x1.names, x1.items⟩ : Json) x2 (fun y3 y4 => k0 y3 y4)
noncomputable def field_Flag {R : Type} : field_Flag_ty R := fun x1 x2 k0 => field_Flag_X field_of_bool_775c x1 x2 k0
theorem field_Flag_ok {R : Type} (field_of_bool_775c : field_of_bool_775c_ty R) (x1 : Json) (x2 : Str) (k : V → Heap → Option R) : funK tt (field_Flag_E R field_of_bool_775c) (field_Flag_T R) false Try.f30 (codeOf Try.f30) [.agg [.int .i64 x1.kind, .int .i64 x1.num.mant, .int .i64 x1.num.exp, .str x1.text, .sl .str x1.names .no, .sl .json x1.items .no], .str x2] [] k =
    field_Flag_X field_of_bool_775c x1 x2 (fun q0 q1 => k (.tuple [.bool q0, .bool q1]) []) := by kernel_rfl
theorem field_Flag_loops (R : Type) : ∀ a ∈ loopsOf (codeOf Try.f30), LoopOk tt (field_Flag_E R field_of_bool_775c) (field_Flag_T R) 0 a := by
  refine loops_ok 0 (by kernel_rfl) fun i hi => ?_
  omega
theorem field_Flag_S_ok (R : Type) (other : Yard.Spec R) (ho : Yard.Spec.Ok Try.prog 30 other) : Yard.Spec.Ok Try.prog 30 (specBy field_Flag_p field_Flag_q (field_Flag_rr field_Flag) other) :=
  specBy_ok ho (funK_sound TT mixed (field_Flag_EOk R) (keep := false) rfl rfl rfl rfl 0 (field_Flag_loops R)) fun (x : Pat.dens field_Flag_p) (y : HPat.dens field_Flag_q) k => field_Flag_ok field_of_bool_775c (⟨x.1.1, ⟨x.1.2.1, x.1.2.2.1⟩, x.1.2.2.2.1, x.1.2.2.2.2.1, x.1.2.2.2.2.2.1⟩ : Json) x.2.1 k

/-! ### humpyard/field.List$1 -/
abbrev field_List_1_ty (R : Type) : Type := Json → ((List Json) → Bool → Option R) → Option R
abbrev field_List_1_p : List Pat := [.agg [.int .i64, .int .i64, .int .i64, .str, .sl .str, .sl .json]]
abbrev field_List_1_q : List HPat := []
noncomputable def field_List_1_rr {R : Type} (fn : field_List_1_ty R) : Pat.dens field_List_1_p → HPat.dens field_List_1_q → (V → Heap → Option R) → Option R := fun x y k => fn (⟨x.1.1, ⟨x.1.2.1, x.1.2.2.1⟩, x.1.2.2.2.1, x.1.2.2.2.2.1, x.1.2.2.2.2.2.1⟩ : Json) (fun q0 q1 => k (.tuple [.sl .json q0 .no, .bool q1]) [])
noncomputable def field_List_1_E (R : Type) (field_fresh : field_fresh_ty R) : Env R := fun i => match i with
  | 67 => some (true, (specBy field_fresh_p field_fresh_q (field_fresh_rr field_fresh) specNo))
  | _ => none
theorem field_List_1_EOk (R : Type) : EOk Try.prog (field_List_1_E R field_fresh) := by
  intro i b sp h
  unfold field_List_1_E at h
  split at h
  · cases h; exact (field_fresh_S_ok R _ (specNo_ok _))
  · cases h

noncomputable def field_List_1_T (R : Type) : Nat → Option (Hint × LSpec R) := fun i => match i with
  | _ => none

noncomputable def field_List_1_X {R : Type} (field_fresh : field_fresh_ty R) (x1 : Json) (k0 : (List Json) → Bool → Option R) : Option R :=
  field_fresh (⟨x1.kind, ⟨x1.num.mant, x1.num.exp⟩, x1.text, x1.names, x1.items⟩ : Json) (fun y2 => k0 y2.items (x1.kind == 6))
noncomputable def field_List_1 {R : Type} : field_List_1_ty R := fun x1 k0 => field_List_1_X field_fresh x1 k0
theorem field_List_1_ok {R : Type} (field_fresh : field_fresh_ty R) (x1 : Json) (k : V → Heap → Option R) : funK tt (field_List_1_E R field_fresh) (field_List_1_T R) false Try.f79 (codeOf Try.f79) [.agg [.int .i64 x1.kind, .int .i64 x1.num.mant, .int .i64 x1.num.exp, .str x1.text, .sl .str x1.names .no, .sl .json x1.items .no]] [] k =
    field_List_1_X field_fresh x1 (fun q0 q1 => k (.tuple [.sl .json q0 .no, .bool q1]) []) := by kernel_rfl
theorem field_List_1_loops (R : Type) : ∀ a ∈ loopsOf (codeOf Try.f79), LoopOk tt (field_List_1_E R field_fresh) (field_List_1_T R) 0 a := by
  refine loops_ok 0 (by kernel_rfl) fun i hi => ?_
  omega
theorem field_List_1_S_ok (R : Type) (other : Yard.Spec R) (ho : Yard.Spec.Ok Try.prog 79 other) : Yard.Spec.Ok Try.prog 79 (specBy field_List_1_p field_List_1_q (field_List_1_rr field_List_1) other) :=
  specBy_ok ho (funK_sound TT mixed (field_List_1_EOk R) (keep := false) rfl rfl rfl rfl 0 (field_List_1_loops R)) fun (x : Pat.dens field_List_1_p) (y : HPat.dens field_List_1_q) k => field_List_1_ok field_fresh (⟨x.1.1, ⟨x.1.2.1, x.1.2.2.1⟩, x.1.2.2.2.1, x.1.2.2.2.2.1, x.1.2.2.2.2.2.1⟩ : Json) k

/-! ### humpyard/field.of[[]humpyard/api.Json] -/
abbrev field_of_Json_7b3b_ty (R : Type) : Type := Json → Str → ((List Json) → Bool → Option R) → Option R
abbrev field_of_Json_7b3b_p : List Pat := [.agg [.int .i64, .int .i64, .int .i64, .str, .sl .str, .sl .json], .leaf (.str), .leaf (.fn 79)]
abbrev field_of_Json_7b3b_q : List HPat := []
noncomputable def field_of_Json_7b3b_rr {R : Type} (fn : field_of_Json_7b3b_ty R) : Pat.dens field_of_Json_7b3b_p → HPat.dens field_of_Json_7b3b_q → (V → Heap → Option R) → Option R := fun x y k => fn (⟨x.1.1, ⟨x.1.2.1, x.1.2.2.1⟩, x.1.2.2.2.1, x.1.2.2.2.2.1, x.1.2.2.2.2.2.1⟩ : Json) x.2.1 (fun q0 q1 => k (.tuple [.sl .json q0 .no, .bool q1]) [])
noncomputable def field_of_Json_7b3b_E (R : Type) (field_find : field_find_ty R) (field_List_1 : field_List_1_ty R) : Env R := fun i => match i with
  | 68 => some (true, (specBy field_find_p field_find_q (field_find_rr field_find) specNo))
  | 79 => some (true, (specBy field_List_1_p field_List_1_q (field_List_1_rr field_List_1) specNo))
  | _ => none
theorem field_of_Json_7b3b_EOk (R : Type) : EOk Try.prog (field_of_Json_7b3b_E R field_find field_List_1) := by
  intro i b sp h
  unfold field_of_Json_7b3b_E at h
  split at h
  · cases h; exact (field_find_S_ok R _ (specNo_ok _))
  · cases h; exact (field_List_1_S_ok R _ (specNo_ok _))
  · cases h

noncomputable def field_of_Json_7b3b_T (R : Type) : Nat → Option (Hint × LSpec R) := fun i => match i with
  | _ => none

noncomputable def field_of_Json_7b3b_X {R : Type} (field_find : field_find_ty R) (field_List_1 : field_List_1_ty R) (x1 : Json) (x2 : Str) (k0 : (List Json) → Bool → Option R) : Option R :=
  field_find (⟨x1.kind, ⟨x1.num.mant, x1.num.exp⟩, x1.text, x1.names, x1.items⟩ : Json) x2 (fun y3 y4 => bif (!y4) then (k0 ([] : List Json) false) else (field_List_1 (⟨y3.kind, ⟨y3.num.mant, y3.num.exp⟩, y3.text, y3.names, y3.items⟩ : Json) (fun y5 y6 => bif y6 then (k0 y5 true) else (k0 ([] : List Json) false))))
noncomputable def field_of_Json_7b3b {R : Type} : field_of_Json_7b3b_ty R := fun x1 x2 k0 => field_of_Json_7b3b_X field_find field_List_1 x1 x2 k0
theorem field_of_Json_7b3b_ok {R : Type} (field_find : field_find_ty R) (field_List_1 : field_List_1_ty R) (x1 : Json) (x2 : Str) (k : V → Heap → Option R) : funK tt (field_of_Json_7b3b_E R field_find field_List_1) (field_of_Json_7b3b_T R) false Try.f78 (codeOf Try.f78) [.agg [.int .i64 x1.kind, .int .i64 x1.num.mant, .int .i64 x1.num.exp, .str x1.text, .sl .str x1.names .no, .sl .json x1.items .no], .str x2, .func 79 [] []] [] k =
    field_of_Json_7b3b_X field_find field_List_1 x1 x2 (fun q0 q1 => k (.tuple [.sl .json q0 .no, .bool q1]) []) := by kernel_rfl
theorem field_of_Json_7b3b_loops (R : Type) : ∀ a ∈ loopsOf (codeOf Try.f78), LoopOk tt (field_of_Json_7b3b_E R field_find field_List_1) (field_of_Json_7b3b_T R) 0 a := by
  refine loops_ok 0 (by kernel_rfl) fun i hi => ?_
  omega
theorem field_of_Json_7b3b_S_ok (R : Type) (other : Yard.Spec R) (ho : Yard.Spec.Ok Try.prog 78 other) : Yard.Spec.Ok Try.prog 78 (specBy field_of_Json_7b3b_p field_of_Json_7b3b_q (field_of_Json_7b3b_rr field_of_Json_7b3b) other) :=
  specBy_ok ho (funK_sound TT mixed (field_of_Json_7b3b_EOk R) (keep := false) rfl rfl rfl rfl 0 (field_of_Json_7b3b_loops R)) fun (x : Pat.dens field_of_Json_7b3b_p) (y : HPat.dens field_of_Json_7b3b_q) k => field_of_Json_7b3b_ok field_find field_List_1 (⟨x.1.1, ⟨x.1.2.1, x.1.2.2.1⟩, x.1.2.2.2.1, x.1.2.2.2.2.1, x.1.2.2.2.2.2.1⟩ : Json) x.2.1 k

/-! ### humpyard/field.List -/
abbrev field_List_ty (R : Type) : Type := Json → Str → ((List Json) → Bool → Option R) → Option R
abbrev field_List_p : List Pat := [.agg [.int .i64, .int .i64, .int .i64, .str, .sl .str, .sl .json], .leaf (.str)]
abbrev field_List_q : List HPat := []
noncomputable def field_List_rr {R : Type} (fn : field_List_ty R) : Pat.dens field_List_p → HPat.dens field_List_q → (V → Heap → Option R) → Option R := fun x y k => fn (⟨x.1.1, ⟨x.1.2.1, x.1.2.2.1⟩, x.1.2.2.2.1, x.1.2.2.2.2.1, x.1.2.2.2.2.2.1⟩ : Json) x.2.1 (fun q0 q1 => k (.tuple [.sl .json q0 .no, .bool q1]) [])
noncomputable def field_List_E (R : Type) (field_of_Json_7b3b : field_of_Json_7b3b_ty R) : Env R := fun i => match i with
  | 78 => some (true, (specBy field_of_Json_7b3b_p field_of_Json_7b3b_q (field_of_Json_7b3b_rr field_of_Json_7b3b) specNo))
  | _ => none
theorem field_List_EOk (R : Type) : EOk Try.prog (field_List_E R field_of_Json_7b3b) := by
  intro i b sp h
  unfold field_List_E at h
  split at h
  · cases h; exact (field_of_Json_7b3b_S_ok R _ (specNo_ok _))
  · cases h

noncomputable def field_List_T (R : Type) : Nat → Option (Hint × LSpec R) := fun i => match i with
  | _ => none

noncomputable def field_List_X {R : Type} (field_of_Json_7b3b : field_of_Json_7b3b_ty R) (x1 : Json) (x2 : Str) (k0 : (List Json) → Bool → Option R) : Option R :=
  field_of_Json_7b3b (⟨x1.kind, ⟨x1.num.mant, x1.num.exp⟩, x1.text, x1.names, x1.items⟩ : Json) x2 (fun y3 y4 => k0 y3 y4)
noncomputable def field_List {R : Type} : field_List_ty R := fun x1 x2 k0 => field_List_X field_of_Json_7b3b x1 x2 k0
theorem field_List_ok {R : Type} (field_of_Json_7b3b : field_of_Json_7b3b_ty R) (x1 : Json) (x2 : Str) (k : V → Heap → Option R) : funK tt (field_List_E R field_of_Json_7b3b) (field_List_T R) false Try.f31 (codeOf Try.f31) [.agg [.int .i64 x1.kind, .int .i64 x1.num.mant, .int .i64 x1.num.exp, .str x1.text, .sl .str x1.names .no, .sl .json x1.items .no], .str x2] [] k =
    field_List_X field_of_Json_7b3b x1 x2 (fun q0 q1 => k (.tuple [.sl .json q0 .no, .bool q1]) []) := by kernel_rfl
theorem field_List_loops (R : Type) : ∀ a ∈ loopsOf (codeOf Try.f31), LoopOk tt (field_List_E R field_of_Json_7b3b) (field_List_T R) 0 a := by
  refine loops_ok 0 (by kernel_rfl) fun i hi => ?_
  omega
theorem field_List_S_ok (R : Type) (other : Yard.Spec R) (ho : Yard.Spec.Ok Try.prog 31 other) : Yard.Spec.Ok Try.prog 31 (specBy field_List_p field_List_q (field_List_rr field_List) other) :=
  specBy_ok ho (funK_sound TT mixed (field_List_EOk R) (keep := false) rfl rfl rfl rfl 0 (field_List_loops R)) fun (x : Pat.dens field_List_p) (y : HPat.dens field_List_q) k => field_List_ok field_of_Json_7b3b (⟨x.1.1, ⟨x.1.2.1, x.1.2.2.1⟩, x.1.2.2.2.1, x.1.2.2.2.2.1, x.1.2.2.2.2.2.1⟩ : Json) x.2.1 k

end Go.Proofs.Ytcocpfgemdkkfaa

/-
  What FieldMakes computes: true. Plain Lean over the printed functions. Own work.
-/
set_option linter.unusedVariables false
namespace Go.Proofs.Ytcocpfgemdkkfaa
open Go Go.Yard

/-! ### put together -/
def mk : List Str → List Json → List Str → List Json → List Str × List Json
  | n :: ns, x :: xs, a, b => if a.contains n then mk ns xs a b else mk ns xs (a ++ [n]) (b ++ [x])
  | [], _, a, b => (a, b)
  | _ :: _, [], a, b => (a, b)

theorem mk_len : ∀ (ns : List Str) (xs : List Json) (a : List Str) (b : List Json), a.length = b.length → (mk ns xs a b).1.length = (mk ns xs a b).2.length ∧ (mk ns xs a b).1.length ≤ a.length + ns.length
  | [], _, a, b, h => ⟨h, by simp [mk]⟩
  | _ :: _, [], a, b, h => ⟨h, by simp [mk]⟩
  | n :: ns, x :: xs, a, b, h => by
    simp only [mk]
    split
    · have := mk_len ns xs a b h
      exact ⟨this.1, by have := this.2; simp; omega⟩
    · have := mk_len ns xs (a ++ [n]) (b ++ [x]) (by simp [h])
      exact ⟨this.1, by have := this.2; simp at this ⊢; omega⟩

theorem mk_mem : ∀ (ns : List Str) (xs : List Json) (a : List Str) (b : List Json), (∀ s ∈ (mk ns xs a b).1, s ∈ a ∨ s ∈ ns) ∧ ∀ y ∈ (mk ns xs a b).2, y ∈ b ∨ y ∈ xs
  | [], _, a, b => ⟨fun s h => .inl h, fun y h => .inl h⟩
  | _ :: _, [], a, b => ⟨fun s h => .inl h, fun y h => .inl h⟩
  | n :: ns, x :: xs, a, b => by
    simp only [mk]
    split
    · obtain ⟨h1, h2⟩ := mk_mem ns xs a b
      exact ⟨fun s h => (h1 s h).imp id (List.mem_cons_of_mem _), fun y h => (h2 y h).imp id (List.mem_cons_of_mem _)⟩
    · obtain ⟨h1, h2⟩ := mk_mem ns xs (a ++ [n]) (b ++ [x])
      refine ⟨fun s h => ?_, fun y h => ?_⟩
      · rcases h1 s h with h | h
        · rcases List.mem_append.1 h with h | h
          · exact .inl h
          · simp at h; subst h; exact .inr (by simp)
        · exact .inr (List.mem_cons_of_mem _ h)
      · rcases h2 y h with h | h
        · rcases List.mem_append.1 h with h | h
          · exact .inl h
          · simp at h; subst h; exact .inr (by simp)
        · exact .inr (List.mem_cons_of_mem _ h)

theorem look_append (s n : Str) (x : Json) : ∀ (a : List Str) (b : List Json), a.length = b.length → look s (a ++ [n]) (b ++ [x]) = (look s a b).or (if s == n then some x else none)
  | [], [], _ => by simp [look]
  | p :: a, y :: b, h => by
    simp only [List.cons_append, look]
    cases (s == p) with
    | true => simp
    | false => simpa using look_append s n x a b (by simpa using h)

theorem look_has (s : Str) : ∀ (a : List Str) (b : List Json), a.length = b.length → (look s a b).isSome = a.contains s
  | [], [], _ => rfl
  | p :: a, y :: b, h => by
    simp only [look, List.contains_cons]
    cases hq : (s == p) with
    | true => simp
    | false => simpa using look_has s a b (by simpa using h)

theorem look_mk (s : Str) : ∀ (ns : List Str) (xs : List Json) (a : List Str) (b : List Json), a.length = b.length → look s (mk ns xs a b).1 (mk ns xs a b).2 = (look s a b).or (look s ns xs)
  | [], xs, a, b, h => by simp [mk, look]
  | _ :: _, [], a, b, h => by simp [mk, look]
  | n :: ns, x :: xs, a, b, h => by
    simp only [mk]
    split
    · rename_i hc
      rw [look_mk s ns xs a b h]
      simp only [look]
      cases hq : (s == n) with
      | false => simp
      | true =>
        have e : s = n := by simpa using hq
        have := look_has s a b h
        rw [e, hc, Option.isSome_iff_exists] at this
        obtain ⟨y, hy⟩ := this
        rw [e, hy]
        simp
    · rename_i hc
      rw [look_mk s ns xs (a ++ [n]) (b ++ [x]) (by simp [h]), look_append s n x a b h]
      simp only [look]
      cases hq : (s == n) with
      | false => simp
      | true => cases look s a b <;> simp

theorem make_loop {R : Type} (ns : List Str) (xs : List Json) (hx : xs.length ≤ ns.length) (hn : ns.length ≤ 1048576) (hj : ∀ y ∈ xs, JOk y) (p q r : Int) (t : Str) (a b c : Int) (u : Str)
    (e0 : Int → Int → Int → Str → Int → Int → Int → Str → List Str → List Json → Option R) : ∀ (n i : Nat) (l : List Str) (m : List Json), i ≤ xs.length → xs.length - i < n → l.length = m.length → l.length ≤ i →
    field_Make_3_0_L n ns xs (xs.length : Int) (i : Int) p q r t a b c u l m e0 = e0 p q r t a b c u (mk (ns.drop i) (xs.drop i) l m).1 (mk (ns.drop i) (xs.drop i) l m).2 := by
  intro n
  induction n with
  | zero => intro i l m _ h; omega
  | succ n ih =>
    intro i l m hi hni hlm hli
    show field_Make_3_0_B slices_Contains_stringstring field_fresh (fun x1 x2 x3 x4 x5 x6 x7 x8 x9 x10 x11 x12 x13 x14 => field_Make_3_0_L n x1 x2 x3 x4 x5 x6 x7 x8 x9 x10 x11 x12 x13 x14 e0) _ _ _ _ _ _ _ _ _ _ _ _ _ _ e0 = _
    unfold field_Make_3_0_B
    by_cases h : i < xs.length
    · have h1 : decide ((i : Int) < (xs.length : Int)) = true := by simp; omega
      have h2 : (decide ((0 : Int) ≤ (i : Int)) && true) = true := by simp
      have h2' : (decide ((0 : Int) ≤ (i : Int)) && decide ((i : Int) < ns.length)) = true := by simp; omega
      have hw : IntKind.i64.wrap ((i : Int) + 1) = ((i + 1 : Nat) : Int) := by rw [wrap_id (by omega) (by omega)]; omega
      have hg : xs.getD (i : Int).toNat (Ty.dflt .json) = xs[i] := getD_at h _
      have hg' : ns.getD (i : Int).toNat (Ty.dflt .str) = ns[i] := getD_at (by omega) _
      have hr1 : decide ((l.length + 1) * 16 ≤ 140737488355328) = true := by simp; omega
      have hr2 : decide ((m.length + 1) * 88 ≤ 140737488355328) = true := by simp; omega
      rw [h1, cond_true, chk_pos h2, chk_pos h2', hg, hg', contains_eq l (by omega), Json.eta, hw]
      rw [List.drop_eq_getElem_cons h, List.drop_eq_getElem_cons (show i < ns.length by omega)]
      simp only [mk]
      cases hc : l.contains ns[i] with
      | true =>
        simp only [Bool.not_true, cond_false, if_true]
        exact ih (i + 1) l m (by omega) (by omega) hlm (by omega)
      | false =>
        simp only [Bool.not_false, cond_true, Bool.false_eq_true, if_false]
        rw [chk_pos h2', chk_pos hr1, fresh_eq _ (hj _ (List.getElem_mem h)), chk_pos hr2, Json.eta]
        exact ih (i + 1) (l ++ [ns[i]]) (m ++ [xs[i]]) (by omega) (by omega) (by simp [hlm]) (by first | omega | (simp; done) | (simp; omega))
    · have h1 : decide ((i : Int) < (xs.length : Int)) = false := by simp; omega
      rw [h1, cond_false, List.drop_eq_nil_of_le (show xs.length ≤ i by omega)]
      have : ∀ ns : List Str, mk ns [] l m = (l, m) := fun ns => by cases ns <;> rfl
      rw [this]

theorem make_eq {R : Type} (ns : List Str) (xs : List Json) (hn : ns.length ≤ 1048576) (hj : ∀ y ∈ xs, JOk y) (k : Json → Option R) :
    field_Make ns xs k = k ⟨7, ⟨0, 0⟩, [], (mk ns xs [] []).1, (mk ns xs [] []).2⟩ := by
  unfold field_Make field_Make_X
  have hm : (min (xs.length : Int) (ns.length : Int)).toNat - 0 = min xs.length ns.length := by omega
  rw [chk_pos (by first | omega | (simp; done) | (simp; omega)), chk_pos (by first | omega | (simp; done) | (simp; omega)), hm, List.drop_zero]
  have hl : (xs.take (min xs.length ns.length)).length = min xs.length ns.length := by simp
  refine (make_loop ns (xs.take (min xs.length ns.length)) (by rw [hl]; omega) hn (fun y hy => hj y (List.mem_of_mem_take hy)) 0 0 0 [] 7 0 0 [] _ _ 0 [] [] (by omega) (by first | omega | (simp; done) | (simp; omega)) rfl (by simp)).trans ?_
  have key : ∀ (ns : List Str) (xs : List Json) (a : List Str) (b : List Json), mk ns (xs.take (min xs.length ns.length)) a b = mk ns xs a b := by
    intro ns
    induction ns with
    | nil => intro xs a b; cases xs <;> simp [mk]
    | cons n ns ih =>
      intro xs a b
      cases xs with
      | nil => simp
      | cons x xs =>
        have : min (x :: xs).length (n :: ns).length = min xs.length ns.length + 1 := by simp only [List.length_cons]; omega
        rw [this, List.take_succ_cons]
        simp only [mk, ih]
  simp only [List.drop_zero, key]

theorem get_eq {R : Type} (v : Json) (hv : JOk v) (s : Str) (k : Json → Bool → Option R) :
    field_Get v s k = match (if v.kind = 7 then look s v.names v.items else none) with | some x => k x true | none => k zeroJ false := by
  unfold field_Get field_Get_X field_of_Json_ebf4 field_of_Json_ebf4_X field_Get_1 field_Get_1_X
  simp only [Json.eta]
  rw [find_eq v hv]
  generalize hq : (if v.kind = 7 then look s v.names v.items else none) = q
  cases q with
  | some x =>
    have hmem : JOk x := by
      split at hq
      · rw [look_index] at hq
        cases hp : v.names.findIdx? (s == ·) with
        | none => rw [hp] at hq; cases hq
        | some j =>
          rw [hp] at hq
          exact hv.item (List.mem_of_getElem? hq)
      · cases hq
    simp only [Bool.not_true, cond_false]
    rw [fresh_eq x hmem]
    rfl
  | none => rfl

/-! ### the statement -/
theorem bcomm (a b : Str) : (a == b) = (b == a) := by
  by_cases h : a = b
  · rw [h]
  · have h1 : (a == b) = false := by simpa using h
    have h2 : (b == a) = false := by simpa using fun e : b = a => h e.symm
    rw [h1, h2]

theorem makes_fit {R : Type} (ns : List Str) (l : List Raw) (hl : l.length ≤ 1048576) (hr : ∀ x ∈ l, RawOk x) (o : Str) (b : Bool) : ∀ (n i : Nat) (xs : List Json), i ≤ l.length → i ≤ 12 → l.length - i < n → xs.length ≤ i → (∀ y ∈ xs, JOk y) →
    ∃ xs' : List Json, xs'.length ≤ 12 ∧ (∀ y ∈ xs', JOk y) ∧ ∀ e0 : List Str → Str → Bool → List Json → Option R, law05_FieldMakes_4_0_L n ns l o b xs (i : Int) e0 = e0 ns o b xs' := by
  intro n
  induction n with
  | zero => intro i xs _ _ h; omega
  | succ n ih =>
    intro i xs hi h12 hn hx hxs
    by_cases h : i < l.length ∧ i < 12
    · obtain ⟨h, h2⟩ := h
      have c1 : decide ((i : Int) < (l.length : Int)) = true := by simp; omega
      have c2 : decide ((i : Int) < (12 : Int)) = true := by simp; omega
      have c3 : (decide ((0 : Int) ≤ (i : Int)) && true) = true := by simp
      have hw : IntKind.i64.wrap ((i : Int) + 1) = ((i + 1 : Nat) : Int) := by rw [wrap_id (by omega) (by omega)]; omega
      have hg : l.getD (i : Int).toNat (Ty.dflt .raw) = l[i] := getD_at h _
      obtain ⟨j, hj1, hj2⟩ := fit_eq (R := R) l[i] (hr _ (List.getElem_mem h)) 2 (by decide) (by decide)
      obtain ⟨xs', g1, g2, g3⟩ := ih (i + 1) (xs ++ [j]) (by omega) (by omega) (by omega) (by first | omega | (simp; done) | (simp; omega)) (fun y hy => by
        rcases List.mem_append.1 hy with hy | hy
        · exact hxs y hy
        · simp at hy; subst hy; exact hj1)
      refine ⟨xs', g1, g2, fun e0 => ?_⟩
      rw [← g3 e0]
      show law05_FieldMakes_4_0_B law04_Fit (fun a1 a2 a3 a4 a5 a6 => law05_FieldMakes_4_0_L n a1 a2 a3 a4 a5 a6 e0) _ _ _ _ _ _ e0 = _
      unfold law05_FieldMakes_4_0_B
      simp only [c1, c2, cond_true, hg, hw, Raw.eta, Json.eta]
      rw [chk_pos c3, hj2, chk_pos (by first | omega | (simp; done) | (simp; omega))]
    · refine ⟨xs, by omega, hxs, fun e0 => ?_⟩
      show law05_FieldMakes_4_0_B law04_Fit _ _ _ _ _ _ _ e0 = _
      unfold law05_FieldMakes_4_0_B
      by_cases h1 : i < l.length
      · have c1 : decide ((i : Int) < (l.length : Int)) = true := by simp; omega
        have c2 : decide ((i : Int) < (12 : Int)) = false := by simp; omega
        simp only [c1, c2, cond_true, cond_false]
      · have c1 : decide ((i : Int) < (l.length : Int)) = false := by simp; omega
        simp only [c1, cond_false]

theorem makes_first {R : Type} (ns : List Str) (hn : ns.length ≤ 1048576) (o : Str) (b : Bool) (xs : List Json) (m : Int) (q : Bool) (i : Nat) (hi : i < ns.length) (v : Json)
    (e0 : List Str → Str → Bool → List Json → Int → Bool → Int → Int → Json → Option R) : ∀ (k n : Nat) (f : Int), k ≤ ns.length → k < n →
    law05_FieldMakes_16_0_L n ns o b xs m q (i : Int) f ((k : Int) - 1) v e0 = e0 ns o b xs m q (i : Int) (match (ns.take k).findIdx? (ns[i] == ·) with | some j => (j : Int) | none => f) v := by
  intro k
  induction k with
  | zero =>
    intro n f _ hn
    cases n with
    | zero => omega
    | succ n =>
      show law05_FieldMakes_16_0_B _ _ _ _ _ _ _ _ _ _ _ e0 = _
      unfold law05_FieldMakes_16_0_B
      simp only [Json.eta]
      rfl
  | succ k ih =>
    intro n f hk hkn
    cases n with
    | zero => omega
    | succ n =>
      show law05_FieldMakes_16_0_B (fun a1 a2 a3 a4 a5 a6 a7 a8 a9 a10 => law05_FieldMakes_16_0_L n a1 a2 a3 a4 a5 a6 a7 a8 a9 a10 e0) _ _ _ _ _ _ _ _ _ _ e0 = _
      unfold law05_FieldMakes_16_0_B
      have h0 : ((k + 1 : Nat) : Int) - 1 = (k : Int) := by omega
      rw [h0]
      have c1 : decide ((k : Int) ≥ (0 : Int)) = true := by simp
      have c2 : (true && decide ((k : Int) < ns.length)) = true := by simp; omega
      have c3 : (decide ((0 : Int) ≤ (i : Int)) && decide ((i : Int) < ns.length)) = true := by simp; omega
      have hw : IntKind.i64.wrap ((k : Int) - 1) = (k : Int) - 1 := wrap_id (by omega) (by omega)
      have hg : ns.getD (k : Int).toNat (Ty.dflt .str) = ns[k] := getD_at (by omega) _
      have hg' : ns.getD (i : Int).toNat (Ty.dflt .str) = ns[i] := getD_at hi _
      have e1 := fun w => ih n w (by omega) (by omega)
      have hge : ((k : Int) ≥ 0) := by omega
      rw [c1, cond_true]
      have c2' : (decide ((0 : Int) ≤ (k : Int)) && decide ((k : Int) < ns.length)) = true := by simp; omega
      first | rw [chk_pos c2', chk_pos c3] | rw [chk_pos c2, chk_pos c3]
      simp only [hw, hg, hg', Json.eta, e1]
      have ht : ns.take (k + 1) = ns.take k ++ [ns[k]] := by rw [List.take_add_one]; simp [show k < ns.length by omega]
      rw [ht, List.findIdx?_append]
      cases hq : (ns.take k).findIdx? (ns[i] == ·) with
      | some j => cases (ns[k] == ns[i]) <;> simp
      | none =>
        rw [bcomm ns[k] ns[i]]
        cases hf : (ns[i] == ns[k]) with
        | true => simp [hf, Nat.min_eq_left (show k ≤ ns.length by omega)]
        | false => simp [hf]

theorem first_le (s : Str) (ns : List Str) (i : Nat) (hi : i < ns.length) (hs : ns[i] = s) : ∃ j, j ≤ i ∧ (ns.take (i + 1)).findIdx? (s == ·) = some j ∧ ns.findIdx? (s == ·) = some j := by
  have ht : ns = ns.take (i + 1) ++ ns.drop (i + 1) := (List.take_append_drop _ _).symm
  cases hq : (ns.take (i + 1)).findIdx? (s == ·) with
  | none =>
    rw [List.findIdx?_eq_none_iff] at hq
    have := hq ns[i] (by rw [List.mem_take_iff_getElem]; exact ⟨i, by omega, rfl⟩)
    rw [hs] at this
    simp at this
  | some j =>
    refine ⟨j, ?_, rfl, ?_⟩
    · obtain ⟨hj, _, _⟩ := List.findIdx?_eq_some_iff_getElem.1 hq
      simp at hj; omega
    · conv => lhs; rw [ht]
      rw [List.findIdx?_append, hq]
      rfl

theorem makes_loop {R : Type} (ns : List Str) (hn : ns.length ≤ 1048576) (o : Str) (xs : List Json) (hxs : ∀ y ∈ xs, JOk y) (v : Json) (hv : JOk v) (h7 : v.kind = 7) (hlook : ∀ s, look s v.names v.items = look s ns xs) (m : Nat) (hm1 : m ≤ ns.length) (hm2 : m ≤ xs.length)
    (e0 : Str → Bool → Bool → Json → Option R) (e1 : Str → Bool → Bool → Bool → Json → Option R) : ∀ (n i : Nat) (q : Bool), i ≤ m → m - i < n →
    law05_FieldMakes_11_0_L n ns o true xs (m : Int) q (i : Int) v e0 e1 = e0 o true (q || ((ns.take m).drop i).contains o) v := by
  intro n
  induction n with
  | zero => intro i q _ h; omega
  | succ n ih =>
    intro i q hi hin
    show law05_FieldMakes_11_0_B field_Get ref04_Same law05_FieldMakes_16_0_L (fun a1 a2 a3 a4 a5 a6 a7 a8 => law05_FieldMakes_11_0_L n a1 a2 a3 a4 a5 a6 a7 a8 e0 e1) _ _ _ _ _ _ _ _ e0 e1 = _
    unfold law05_FieldMakes_11_0_B
    by_cases h : i < m
    · have c1 : decide ((i : Int) < (m : Int)) = true := by simp; omega
      have c2 : (decide ((0 : Int) ≤ (i : Int)) && decide ((i : Int) < ns.length)) = true := by simp; omega
      have hw : IntKind.i64.wrap ((i : Int) + 1) = ((i + 1 : Nat) : Int) := by rw [wrap_id (by omega) (by omega)]; omega
      have hg : ns.getD (i : Int).toNat (Ty.dflt .str) = ns[i] := getD_at (by omega) _
      obtain ⟨j, hj1, hj2, hj3⟩ := first_le ns[i] ns i (by omega) rfl
      have hjx : xs[j]? = some xs[j] := by simp [show j < xs.length by omega]
      have hl : (if v.kind = 7 then look ns[i] v.names v.items else none) = some xs[j] := by
        rw [if_pos h7, hlook, look_index, hj3]
        exact hjx
      have c4 : (decide ((0 : Int) ≤ (j : Int)) && decide ((j : Int) < xs.length)) = true := by simp; omega
      have hgj : xs.getD (j : Int).toNat (Ty.dflt .json) = xs[j] := getD_at (by omega) _
      have step : ∀ z : Bool, law05_FieldMakes_16_0_L (List.length ns + List.length o + List.length xs + Int.natAbs (m : Int) + Int.natAbs (i : Int) + Int.natAbs (i : Int) + Int.natAbs (i : Int) + Json.fu v + 3) ns o true xs (m : Int) z (i : Int) (i : Int) (i : Int) v
          (fun y39 y40 y41 y42 y43 y44 y45 y46 y47 => chk (decide ((0 : Int) ≤ y45) && decide (y45 < y39.length)) (field_Get y47 (y39.getD y45.toNat (Ty.dflt .str)) (fun y48 y49 => bif (!y49) then (e1 y40 false y41 y44 y47) else (chk (decide ((0 : Int) ≤ y46) && decide (y46 < y42.length)) (ref04_Same y48 (y42.getD y46.toNat (Ty.dflt .json)) (fun y50 => bif (!y50) then (e1 y40 false y41 y44 y47) else (law05_FieldMakes_11_0_L n y39 y40 y41 y42 y43 y44 (IntKind.i64.wrap (y45 + 1)) y47 e0 e1))))))) =
          e0 o true (z || ((ns.take m).drop (i + 1)).contains o) v := by
        intro z
        have hk : ((i + 1 : Nat) : Int) - 1 = (i : Int) := by omega
        have := makes_first (R := R) ns hn o true xs (m : Int) z i (by omega) v
          (fun y39 y40 y41 y42 y43 y44 y45 y46 y47 => chk (decide ((0 : Int) ≤ y45) && decide (y45 < y39.length)) (field_Get y47 (y39.getD y45.toNat (Ty.dflt .str)) (fun y48 y49 => bif (!y49) then (e1 y40 false y41 y44 y47) else (chk (decide ((0 : Int) ≤ y46) && decide (y46 < y42.length)) (ref04_Same y48 (y42.getD y46.toNat (Ty.dflt .json)) (fun y50 => bif (!y50) then (e1 y40 false y41 y44 y47) else (law05_FieldMakes_11_0_L n y39 y40 y41 y42 y43 y44 (IntKind.i64.wrap (y45 + 1)) y47 e0 e1)))))))
          (i + 1) (List.length ns + List.length o + List.length xs + Int.natAbs (m : Int) + Int.natAbs (i : Int) + Int.natAbs (i : Int) + Int.natAbs (i : Int) + Json.fu v + 3) (i : Int) (by omega) (by omega)
        rw [hk, hj2] at this
        refine this.trans ?_
        simp only [Json.eta]
        rw [chk_pos c2, hg, get_eq v hv, hl]
        simp only [Bool.not_true, cond_false]
        rw [chk_pos c4, hgj, same_refl _ (hxs _ (List.getElem_mem _))]
        simp only [Bool.not_true, cond_false, hw]
        exact ih (i + 1) z (by omega) (by omega)
      simp only [c1, cond_true, hg]
      have hd : (ns.take m).drop i = ns[i] :: (ns.take m).drop (i + 1) := by
        rw [List.drop_eq_getElem_cons (by first | omega | (simp; done) | (simp; omega))]
        simp
      rw [hd]
      cases q with
      | true =>
        simp only [cond_true, Bool.true_or, Json.eta]
        refine (step true).trans ?_
        simp
      | false =>
        simp only [cond_false, Json.eta]
        rw [chk_pos c2]
        refine (step _).trans ?_
        rw [List.contains_cons, bcomm o ns[i]]
        simp
    · have c1 : decide ((i : Int) < (m : Int)) = false := by simp; omega
      simp only [c1, cond_false, Json.eta]
      rw [List.drop_eq_nil_of_le (by first | omega | (simp; done) | (simp; omega))]
      simp

theorem look_some (s : Str) : ∀ (ns : List Str) (xs : List Json), (look s ns xs).isSome = (ns.take (min ns.length xs.length)).contains s
  | [], xs => by simp [look]
  | n :: ns, [] => by simp [look]
  | n :: ns, x :: xs => by
    have e : min (n :: ns).length (x :: xs).length = min ns.length xs.length + 1 := by simp only [List.length_cons]; omega
    rw [e, List.take_succ_cons, List.contains_cons]
    simp only [look]
    cases hq : (s == n) with
    | true => simp
    | false => simpa using look_some s ns xs

theorem law05_FieldMakes_true {R : Type} (ns : List Str) (l : List Raw) (o : Str) (hns : Small 1048576 (.sl .str ns .no)) (hl : Small 1048576 (.sl .raw l .no)) (ho : Small 1048576 (.str o)) (k : Bool → Option R) : law05_FieldMakes ns l o k = k true := by
  have hn : List.length (α := Str) ns ≤ 1048576 := hns.sl_inv.1
  have hr : ∀ x ∈ l, RawOk x := fun x hx => hl.sl_inv.2 x hx
  unfold law05_FieldMakes law05_FieldMakes_X
  rw [law05_awake_true]
  obtain ⟨xs, g1, g2, g3⟩ := makes_fit (R := R) ns l hl.sl_inv.1 hr o true (List.length ns + List.length l + List.length o + List.length ([] : List Json) + Int.natAbs 0 + 3) 0 [] (by omega) (by omega) (by omega) (by simp) (by simp)
  refine (g3 _).trans ?_
  rw [make_eq ns xs hn g2]
  have hml := mk_len ns xs [] [] rfl
  have hmm := mk_mem ns xs [] []
  have h2 : (mk ns xs [] []).1.length ≤ ns.length := by simpa using hml.2
  have h3 : (mk ns xs [] []).2.length = (mk ns xs [] []).1.length := hml.1.symm
  have hv : JOk ⟨7, ⟨0, 0⟩, [], (mk ns xs [] []).1, (mk ns xs [] []).2⟩ := by
    refine jok_mk ⟨by decide, by decide⟩ ⟨by decide, by decide⟩ ⟨by decide, by decide⟩ (by simp) (by omega) (fun s hs => ?_) (by omega) (fun y hy => ?_)
    · rcases hmm.1 s hs with h | h
      · cases h
      · exact (hns.sl_inv.2 s h (.str s) (by simp [Ty.cells])).str_inv
    · rcases hmm.2 y hy with h | h
      · cases h
      · exact g2 y h
  have hlook : ∀ s, look s (mk ns xs [] []).1 (mk ns xs [] []).2 = look s ns xs := fun s => by rw [look_mk s ns xs [] [] rfl]; simp [look]
  have hm : min (ns.length : Int) (xs.length : Int) = ((min ns.length xs.length : Nat) : Int) := by omega
  rw [hm]
  refine (makes_loop (R := R) ns hn o xs g2 _ hv rfl hlook (min ns.length xs.length) (by omega) (by omega) _ _ _ 0 false (by omega) (by omega)).trans ?_
  simp only [Json.eta]
  rw [get_eq _ hv]
  simp only [if_true, hlook, Bool.false_or, List.drop_zero]
  have hls := look_some o ns xs
  have c1 : (((mk ns xs [] []).1.length : Int) == ((mk ns xs [] []).2.length : Int)) = true := by simp [hml.1]
  cases hq : look o ns xs with
  | some x =>
    rw [hq] at hls
    simp only [cond_true, c1, ← hls]
    rfl
  | none =>
    rw [hq] at hls
    simp only [cond_true, c1, ← hls]
    rfl
end Go.Proofs.Ytcocpfgemdkkfaa

/-
  What field's Num, Text, Flag, List and Check compute. Plain Lean over the printed functions. Own work.
-/
set_option linter.unusedVariables false
namespace Go.Proofs.Ytcocpfgemdkkfaa
open Go Go.Yard

theorem JOk.kindI {x : Json} (h : JOk x) : I64 x.kind := i64_has.1 (h (.int .i64 x.kind) (by simp [Ty.cells])).int_inv
theorem JOk.mant {x : Json} (h : JOk x) : I64 x.num.mant := i64_has.1 (h (.int .i64 x.num.mant) (by simp [Ty.cells])).int_inv
theorem JOk.exp {x : Json} (h : JOk x) : I64 x.num.exp := i64_has.1 (h (.int .i64 x.num.exp) (by simp [Ty.cells])).int_inv

/-! ### whole numbers -/
def shiftN : Nat → Int → Option Int
  | 0, n => some n
  | k + 1, n => if -100000000000000000 ≤ n ∧ n ≤ 100000000000000000 then shiftN k (n * 10) else none

def rightB (d : Dcm) : Bool := if d.mant = 0 then decide (d.exp = 0) else (decide (Int.tmod d.mant 10 ≠ 0) && (decide (-1000000000000000 ≤ d.mant) && decide (d.mant ≤ 1000000000000000))) && (decide (-9 ≤ d.exp) && decide (d.exp ≤ 9))

def decInt (d : Dcm) : Option Int := if rightB d = true ∧ 0 ≤ d.exp then shiftN d.exp.toNat d.mant else none

theorem within_eq {R : Type} (a b c : Int) (k : Bool → Option R) : decimal_within_int a b c k = k (decide (a ≤ b) && decide (b ≤ c)) := by
  unfold decimal_within_int decimal_within_int_X
  cases decide (a ≤ b) <;> rfl

theorem right_eq {R : Type} (d : Dcm) (k : Bool → Option R) : decimal_Right d k = k (rightB d) := by
  unfold decimal_Right decimal_Right_X rightB
  simp only [within_eq]
  by_cases h : d.mant = 0
  · have h1 : (d.mant == 0) = true := by simpa using h
    rw [h1, cond_true, if_pos h]
    rfl
  · have h1 : (d.mant == 0) = false := by simpa using h
    rw [h1, cond_false, if_neg h]
    by_cases hq : Int.tmod d.mant 10 = 0
    · have h2 : (Int.tmod d.mant 10 != 0) = false := by simp [hq]
      rw [h2, cond_false]
      simp [hq]
    · have h2 : (Int.tmod d.mant 10 != 0) = true := by simp [hq]
      rw [h2, cond_true]
      cases hw : (decide (-1000000000000000 ≤ d.mant) && decide (d.mant ≤ 1000000000000000)) with
      | true => simp [hq]
      | false => simp [hq]

theorem shift_loop {R : Type} (e0 : Int → Option R) (e1 : Int → Bool → Int → Option R) (f : Int → Bool → Option R) (h1 : ∀ x, e1 0 false x = f 0 false) (h0 : ∀ x, e0 x = f x true) (m : Nat) (hm : m ≤ 9223372036854775806) :
    ∀ (n i : Nat) (x : Int), i ≤ m → m - i < n → -1000000000000000000 ≤ x → x ≤ 1000000000000000000 →
    decimal_shifted_3_0_L n x (m : Int) (i : Int) e0 e1 = match shiftN (m - i) x with | some y => f y true | none => f 0 false := by
  intro n
  induction n with
  | zero => intro i x _ h; omega
  | succ n ih =>
    intro i x hi hn hx1 hx2
    show decimal_shifted_3_0_B decimal_within_int (fun a b c => decimal_shifted_3_0_L n a b c e0 e1) _ _ _ e0 e1 = _
    unfold decimal_shifted_3_0_B
    by_cases h : i < m
    · have c1 : decide ((i : Int) < (m : Int)) = true := by simp; omega
      have hw : IntKind.i64.wrap ((i : Int) + 1) = ((i + 1 : Nat) : Int) := by rw [wrap_id (by omega) (by omega)]; omega
      have e : m - i = (m - (i + 1)) + 1 := by omega
      rw [c1, cond_true, within_eq, e]
      simp only [shiftN]
      by_cases hb : -100000000000000000 ≤ x ∧ x ≤ 100000000000000000
      · have hd : (decide (-100000000000000000 ≤ x) && decide (x ≤ 100000000000000000)) = true := by simp; exact hb
        rw [hd, if_pos hb]
        simp only [Bool.not_true, cond_false, hw]
        rw [wrap_id (by omega) (by omega)]
        exact ih (i + 1) (x * 10) (by omega) (by omega) (by omega) (by omega)
      · have hd : (decide (-100000000000000000 ≤ x) && decide (x ≤ 100000000000000000)) = false := by
          simp only [Bool.and_eq_false_imp, decide_eq_true_eq, decide_eq_false_iff_not]
          exact fun q1 q2 => hb ⟨q1, q2⟩
        rw [hd, if_neg hb]
        simp only [Bool.not_false, cond_true]
        exact h1 x
    · have c1 : decide ((i : Int) < (m : Int)) = false := by simp; omega
      have e : m - i = 0 := by omega
      rw [c1, cond_false, e]
      exact h0 x

theorem decInt_eq {R : Type} (d : Dcm) (k : Int → Bool → Option R) : decimal_Int d k = match decInt d with | some n => k n true | none => k 0 false := by
  unfold decimal_Int decimal_Int_X
  rw [right_eq]
  cases hr : rightB d with
  | false =>
    have : decInt d = none := by unfold decInt; rw [if_neg (by simp [hr])]
    rw [this]; rfl
  | true =>
    by_cases he : d.exp < 0
    · have : decInt d = none := by unfold decInt; rw [if_neg (by omega)]
      have c : decide (d.exp < (0 : Int)) = true := by simpa using he
      rw [this]
      simp only [Bool.not_true, cond_false, c, cond_true]
    · have c : decide (d.exp < (0 : Int)) = false := by simpa using he
      have hb : -1000000000000000 ≤ d.mant ∧ d.mant ≤ 1000000000000000 ∧ d.exp ≤ 9 := by
        unfold rightB at hr
        split at hr
        · simp at hr; omega
        · simp at hr; omega
      have e : decInt d = shiftN d.exp.toNat d.mant := by unfold decInt; rw [if_pos ⟨hr, by omega⟩]
      rw [e]
      simp only [Bool.not_true, cond_false, c]
      unfold decimal_shifted decimal_shifted_X
      rw [wrap_id (by omega) (by omega)]
      have ec : d.exp - 0 = ((d.exp.toNat : Nat) : Int) := by omega
      rw [ec]
      exact shift_loop _ _ (fun a b => k a b) (fun x => rfl) (fun x => rfl) d.exp.toNat (by omega) _ 0 d.mant (by omega) (by omega) (by omega) (by omega)

/-! ### what an item is -/
def numF (x : Json) : Option Int := if x.kind = 4 then decInt x.num else none

theorem num_eq {R : Type} (x : Json) (k : Int → Bool → Option R) : ∃ z : Int, field_num x k = match numF x with | some n => k n true | none => k z false := by
  unfold field_num field_num_X numF
  have eta : (⟨x.num.mant, x.num.exp⟩ : Dcm) = x.num := rfl
  simp only [decInt_eq]
  by_cases h : x.kind = 4
  · have h1 : (x.kind == 4) = true := by simpa using h
    refine ⟨0, ?_⟩
    rw [if_pos h]
    cases hd : decInt x.num with
    | some n => simp only [hd, cond_true, h1]
    | none => simp only [hd, cond_false]
  · have h1 : (x.kind == 4) = false := by simpa using h
    refine ⟨(decInt x.num).getD 0, ?_⟩
    rw [if_neg h]
    cases hd : decInt x.num with
    | some n => simp only [hd, cond_true, h1, Option.getD_some]
    | none => simp only [hd, cond_false, Option.getD_none]

def at7 (v : Json) (s : Str) : Option Json := if v.kind = 7 then look s v.names v.items else none

theorem at7_ok {v : Json} (hv : JOk v) {s : Str} {x : Json} (h : at7 v s = some x) : JOk x := by
  unfold at7 at h
  split at h
  · rw [look_index] at h
    cases hp : v.names.findIdx? (s == ·) with
    | none => rw [hp] at h; cases h
    | some j => rw [hp] at h; exact hv.item (List.mem_of_getElem? h)
  · cases h

theorem Num_eq {R : Type} (v : Json) (hv : JOk v) (s : Str) (k : Int → Bool → Option R) : field_Num v s k = match (at7 v s).bind numF with | some n => k n true | none => k 0 false := by
  unfold field_Num field_Num_X field_of_int_b5fb field_of_int_b5fb_X
  simp only [Json.eta]
  rw [find_eq v hv]
  show (match at7 v s with | some x => _ | none => _) = _
  cases at7 v s with
  | none => rfl
  | some x =>
    simp only [Bool.not_true, cond_false, Option.bind_some]
    obtain ⟨z, hz⟩ := num_eq x (fun y5 y6 => bif y6 then (k y5 true) else (k 0 false))
    refine hz.trans ?_
    cases numF x <;> rfl

def textF (x : Json) : Option Str := if x.kind = 5 then some x.text else none
theorem Text_eq {R : Type} (v : Json) (hv : JOk v) (s : Str) (k : Str → Bool → Option R) : field_Text v s k = match (at7 v s).bind textF with | some n => k n true | none => k [] false := by
  unfold field_Text field_Text_X field_of_string_d6f4 field_of_string_d6f4_X field_Text_1 field_Text_1_X
  simp only [Json.eta]
  rw [find_eq v hv]
  show (match at7 v s with | some x => _ | none => _) = _
  cases at7 v s with
  | none => rfl
  | some x =>
    simp only [Bool.not_true, cond_false, Option.bind_some, textF]
    by_cases h : x.kind = 5
    · have h1 : (x.kind == 5) = true := by simpa using h
      simp only [h1, cond_true, if_pos h]
    · have h1 : (x.kind == 5) = false := by simpa using h
      simp only [h1, cond_false, if_neg h]

def flagF (x : Json) : Option Bool := if x.kind = 3 then some true else if x.kind = 2 then some false else none
theorem flag_eq {R : Type} (x : Json) (k : Bool → Bool → Option R) : field_flag x k = match flagF x with | some b => k b true | none => k false false := by
  unfold field_flag field_flag_X flagF
  by_cases h : x.kind = 3
  · have h1 : (x.kind == 3) = true := by simpa using h
    simp only [h1, cond_true, if_pos h]
  · have h1 : (x.kind == 3) = false := by simpa using h
    by_cases h' : x.kind = 2
    · have h2 : (x.kind == 2) = true := by simpa using h'
      simp only [h1, h2, cond_false, if_neg h, if_pos h']
    · have h2 : (x.kind == 2) = false := by simpa using h'
      simp only [h1, h2, cond_false, if_neg h, if_neg h']

theorem Flag_eq {R : Type} (v : Json) (hv : JOk v) (s : Str) (k : Bool → Bool → Option R) : field_Flag v s k = match (at7 v s).bind flagF with | some n => k n true | none => k false false := by
  unfold field_Flag field_Flag_X field_of_bool_775c field_of_bool_775c_X
  simp only [Json.eta]
  rw [find_eq v hv]
  show (match at7 v s with | some x => _ | none => _) = _
  cases at7 v s with
  | none => rfl
  | some x =>
    simp only [Bool.not_true, cond_false, Option.bind_some, flag_eq]
    cases flagF x <;> rfl

def listF (x : Json) : Option (List Json) := if x.kind = 6 then some x.items else none
theorem List_eq {R : Type} (v : Json) (hv : JOk v) (s : Str) (k : List Json → Bool → Option R) : field_List v s k = match (at7 v s).bind listF with | some n => k n true | none => k [] false := by
  unfold field_List field_List_X field_of_Json_7b3b field_of_Json_7b3b_X field_List_1 field_List_1_X
  simp only [Json.eta]
  rw [find_eq v hv]
  show (match at7 v s with | some x => _ | none => _) = _
  cases hq : at7 v s with
  | none => rfl
  | some x =>
    simp only [Bool.not_true, cond_false, Option.bind_some, listF]
    rw [fresh_eq x (at7_ok hv hq)]
    by_cases h : x.kind = 6
    · have h1 : (x.kind == 6) = true := by simpa using h
      simp only [h1, cond_true, if_pos h]
    · have h1 : (x.kind == 6) = false := by simpa using h
      simp only [h1, cond_false, if_neg h]

/-! ### a schema's fields -/
def fitsB (x : Json) (f : Fld) : Bool :=
  if f.kind = 8 then (flagF x).isSome
  else if f.kind = 4 then (match numF x with | some n => decide (n ≥ f.low) && decide (n ≤ f.high) | none => false)
  else if f.kind = 5 then (match textF x with | some t => decide ((t.length : Int) ≥ f.low) && decide ((t.length : Int) ≤ f.high) | none => false)
  else if f.kind = 6 then (match listF x with | some l => decide ((l.length : Int) ≥ f.low) && decide ((l.length : Int) ≤ f.high) | none => false)
  else decide (x.kind = f.kind)

theorem fits_eq {R : Type} (x : Json) (f : Fld) (k : Bool → Option R) : field_fits x f k = k (fitsB x f) := by
  unfold field_fits field_fits_X fitsB
  simp only [Json.eta]
  by_cases h8 : f.kind = 8
  · have c8 : (f.kind == 8) = true := by simpa using h8
    simp only [c8, cond_true, if_pos h8, flag_eq]
    cases flagF x <;> rfl
  · have c8 : (f.kind == 8) = false := by simpa using h8
    simp only [c8, cond_false, if_neg h8]
    by_cases h4 : f.kind = 4
    · have c4 : (f.kind == 4) = true := by simpa using h4
      simp only [c4, cond_true, if_pos h4]
      obtain ⟨z, hz⟩ := num_eq x (fun y5 y6 => bif y6 then (bif (decide (y5 ≥ f.low)) then (k (decide (y5 ≤ f.high))) else (k false)) else (k false))
      refine hz.trans ?_
      cases numF x with
      | none => rfl
      | some n => simp only [cond_true]; cases decide (n ≥ f.low) <;> rfl
    · have c4 : (f.kind == 4) = false := by simpa using h4
      simp only [c4, cond_false, if_neg h4]
      by_cases h5 : f.kind = 5
      · have c5 : (f.kind == 5) = true := by simpa using h5
        simp only [c5, cond_true, if_pos h5, textF]
        by_cases hk : x.kind = 5
        · have ck : (x.kind == f.kind) = true := by simp [hk, h5]
          simp only [ck, cond_true, if_pos hk]
          cases decide ((x.text.length : Int) ≥ f.low) <;> rfl
        · have ck : (x.kind == f.kind) = false := by simpa [h5] using hk
          simp only [ck, cond_false, if_neg hk]
      · have c5 : (f.kind == 5) = false := by simpa using h5
        simp only [c5, cond_false, if_neg h5]
        by_cases h6 : f.kind = 6
        · have c6 : (f.kind == 6) = true := by simpa using h6
          simp only [c6, cond_true, if_pos h6, listF]
          by_cases hk : x.kind = 6
          · have ck : (x.kind == f.kind) = true := by simp [hk, h6]
            simp only [ck, cond_true, if_pos hk]
            cases decide ((x.items.length : Int) ≥ f.low) <;> rfl
          · have ck : (x.kind == f.kind) = false := by simpa [h6] using hk
            simp only [ck, cond_false, if_neg hk]
        · have c6 : (f.kind == 6) = false := by simpa using h6
          simp only [c6, cond_false, if_neg h6]
          rfl

def bad (v : Json) (f : Fld) : Bool := !decide (v.kind = 7) || (match at7 v f.name with | none => !f.free | some x => !fitsB x f)

theorem Check_loop {R : Type} (v : Json) (hv : JOk v) (l : List Fld) (hl : l.length ≤ 1048576) (e1 : Option R) (e0 : Int → Option R) : ∀ (n i : Nat), i ≤ l.length → l.length - i < n →
    field_Check_2_0_L n l (l.length : Int) (i : Int) v e1 e0 = match (l.drop i).findIdx? (bad v) with | some j => e0 ((i + j : Nat) : Int) | none => e1 := by
  intro n
  induction n with
  | zero => intro i _ h; omega
  | succ n ih =>
    intro i hi hn
    show field_Check_2_0_B field_find field_fits (fun a b c d => field_Check_2_0_L n a b c d e1 e0) l (l.length : Int) (i : Int) v e1 e0 = _
    unfold field_Check_2_0_B
    by_cases h : i < l.length
    · have h1 : decide ((i : Int) < (l.length : Int)) = true := by simp; omega
      have h2 : (decide ((0 : Int) ≤ (i : Int)) && true) = true := by simp
      have hw : IntKind.i64.wrap ((i : Int) + 1) = ((i + 1 : Nat) : Int) := by rw [wrap_id (by omega) (by omega)]; omega
      have hg : l.getD (i : Int).toNat (Ty.dflt .fld) = l[i] := getD_at h _
      have e1' := ih (i + 1) (by omega) (by omega)
      have hd : l.drop i = l[i] :: l.drop (i + 1) := List.drop_eq_getElem_cons h
      have tail : (match (l.drop (i + 1)).findIdx? (bad v) with | some j => e0 ((i + 1 + j : Nat) : Int) | none => e1) = match ((l.drop (i + 1)).findIdx? (bad v)).map (· + 1) with | some j => e0 ((i + j : Nat) : Int) | none => e1 := by
        cases (l.drop (i + 1)).findIdx? (bad v) with
        | none => rfl
        | some j =>
          show e0 ((i + 1 + j : Nat) : Int) = e0 ((i + (j + 1) : Nat) : Int)
          rw [show i + 1 + j = i + (j + 1) by omega]
      rw [h1, cond_true, chk_pos h2]
      simp only [Json.eta, hg, hw, e1']
      rw [find_eq v hv, hd, List.findIdx?_cons]
      show (match at7 v (l[i] : Fld).name with | some x => _ | none => _) = _
      by_cases h7 : v.kind = 7
      · have c7 : (v.kind != 7) = false := by simp [h7]
        cases hq : at7 v (l[i] : Fld).name with
        | none =>
          have hb : bad v l[i] = !(l[i] : Fld).free := by unfold bad; rw [hq]; simp [h7]
          rw [hb]
          simp only [c7, cond_false, Bool.not_false, cond_true]
          rcases Bool.eq_false_or_eq_true (l[i] : Fld).free with hf | hf
          · simp only [hf, Bool.not_true, cond_false, Bool.false_eq_true, if_false]
            exact tail
          · simp only [hf, Bool.not_false, cond_true, if_true]
            rfl
        | some x =>
          have hb : bad v l[i] = !fitsB x l[i] := by unfold bad; rw [hq]; simp [h7]
          rw [hb]
          simp only [c7, cond_false, Bool.not_true, cond_true, Json.eta, fits_eq]
          cases fitsB x l[i] with
          | true => simp only [Bool.not_true, cond_false, Bool.false_eq_true, if_false]; exact tail
          | false => simp only [Bool.not_false, cond_true, if_true]; rfl
      · have c7 : (v.kind != 7) = true := by simp [h7]
        have hb : bad v l[i] = true := by unfold bad; simp [h7]
        have h0 : at7 v (l[i] : Fld).name = none := by unfold at7; rw [if_neg h7]
        rw [hb, h0]
        simp only [c7, cond_true, if_true]
        rfl
    · have h1 : decide ((i : Int) < (l.length : Int)) = false := by simp; omega
      rw [h1, cond_false, List.drop_eq_nil_of_le (by omega)]
      rfl

theorem Check_eq {R : Type} (v : Json) (hv : JOk v) (l : List Fld) (hl : l.length ≤ 1048576) (k : Int → Option R) : field_Check v l k = k (match l.findIdx? (bad v) with | some j => (j : Int) | none => -1) := by
  unfold field_Check field_Check_X
  simp only [Json.eta]
  refine (Check_loop v hv l hl _ _ _ 0 (by omega) (by omega)).trans ?_
  simp only [List.drop_zero, Nat.zero_add]
  cases l.findIdx? (bad v) <;> rfl
end Go.Proofs.Ytcocpfgemdkkfaa

/-
  What FieldOrder computes: true. Plain Lean over the printed functions. Own work.
-/
set_option linter.unusedVariables false
namespace Go.Proofs.Ytcocpfgemdkkfaa
open Go Go.Yard

theorem order_fit {R : Type} (sc : List Fld) (hsc : sc.length ≤ 8) (l : List Raw) (hl : l.length ≤ 1048576) (hr : ∀ x ∈ l, RawOk x) (s : Str) (b : Bool) (x : Raw) : ∀ (n i : Nat) (ns : List Str) (xs : List Json), i ≤ sc.length → i ≤ l.length → sc.length - i < n → ns.length = i → xs.length = i →
    (∀ s ∈ ns, ∃ f ∈ sc, s = f.name) → (∀ y ∈ xs, JOk y) →
    ∃ (ns' : List Str) (xs' : List Json), ns'.length = xs'.length ∧ ns'.length ≤ 8 ∧ (∀ s ∈ ns', ∃ f ∈ sc, s = f.name) ∧ (∀ y ∈ xs', JOk y) ∧
      ((∀ (e0 : List Fld → Str → Bool → List Str → List Json → Raw → Option R) (e1 : List Fld → Str → Bool → Bool → List Str → List Json → Raw → Option R), law05_FieldOrder_7_0_L n sc l s b ns xs (i : Int) x e0 e1 = e0 sc s b ns' xs' x) ∨
       (∀ (e0 : List Fld → Str → Bool → List Str → List Json → Raw → Option R) (e1 : List Fld → Str → Bool → Bool → List Str → List Json → Raw → Option R), law05_FieldOrder_7_0_L n sc l s b ns xs (i : Int) x e0 e1 = e1 sc s b b ns' xs' x)) := by
  intro n
  induction n with
  | zero => intro i ns xs _ _ h; omega
  | succ n ih =>
    intro i ns xs hi hil hn hnl hxl hns hxs
    by_cases h : i < sc.length ∧ i < l.length
    · obtain ⟨h, h2⟩ := h
      have c1 : decide ((i : Int) < (sc.length : Int)) = true := decide_eq_true (by omega)
      have c2 : decide ((i : Int) < (l.length : Int)) = true := decide_eq_true (by omega)
      have c3 : (decide ((0 : Int) ≤ (i : Int)) && true) = true := by simp
      have hw : IntKind.i64.wrap ((i : Int) + 1) = ((i + 1 : Nat) : Int) := by rw [wrap_id (by omega) (by omega)]; omega
      have hg : sc.getD (i : Int).toNat (Ty.dflt .fld) = sc[i] := getD_at h _
      have hg' : l.getD (i : Int).toNat (Ty.dflt .raw) = l[i] := getD_at h2 _
      by_cases hq : (sc[i] : Fld).name = s
      · have hqt : ((sc[i] : Fld).name == s) = true := by simpa using hq
        refine ⟨ns, xs, by omega, by omega, hns, hxs, .inr fun e0 e1 => ?_⟩
        show law05_FieldOrder_7_0_B law04_Fit _ _ _ _ _ _ _ _ _ e0 e1 = _
        unfold law05_FieldOrder_7_0_B
        simp only [c1, c2, cond_true, hg, hqt, Raw.eta]
        rw [chk_pos c3]
      · have hqf : ((sc[i] : Fld).name == s) = false := by simpa using hq
        obtain ⟨j, hj1, hj2⟩ := fit_eq (R := R) l[i] (hr _ (List.getElem_mem h2)) 2 (by decide) (by decide)
        obtain ⟨ns', xs', g1, g2, g3, g4, g5⟩ := ih (i + 1) (ns ++ [(sc[i] : Fld).name]) (xs ++ [j]) (by omega) (by omega) (by omega) (by simp [hnl]) (by simp [hxl])
          (fun s hs => by
            rcases List.mem_append.1 hs with hs | hs
            · exact hns s hs
            · simp only [List.mem_singleton] at hs; exact ⟨sc[i], List.getElem_mem h, hs⟩)
          (fun y hy => by
            rcases List.mem_append.1 hy with hy | hy
            · exact hxs y hy
            · simp only [List.mem_singleton] at hy; subst hy; exact hj1)
        have step : ∀ (e0 : List Fld → Str → Bool → List Str → List Json → Raw → Option R) (e1 : List Fld → Str → Bool → Bool → List Str → List Json → Raw → Option R),
            law05_FieldOrder_7_0_L (n + 1) sc l s b ns xs (i : Int) x e0 e1 = law05_FieldOrder_7_0_L n sc l s b (ns ++ [(sc[i] : Fld).name]) (xs ++ [j]) ((i + 1 : Nat) : Int) x e0 e1 := fun e0 e1 => by
          show law05_FieldOrder_7_0_B law04_Fit (fun a1 a2 a3 a4 a5 a6 a7 a8 => law05_FieldOrder_7_0_L n a1 a2 a3 a4 a5 a6 a7 a8 e0 e1) _ _ _ _ _ _ _ _ e0 e1 = _
          unfold law05_FieldOrder_7_0_B
          have r1 : decide ((ns.length + 1) * 16 ≤ 140737488355328) = true := decide_eq_true (by omega)
          have r2 : decide ((xs.length + 1) * 88 ≤ 140737488355328) = true := decide_eq_true (by omega)
          simp only [c1, c2, cond_true, hg, hg', hw, hqf, cond_false, Raw.eta, Json.eta]
          rw [chk_pos c3, chk_pos c3, chk_pos r1, chk_pos c3, hj2, chk_pos r2]
        refine ⟨ns', xs', g1, g2, g3, g4, ?_⟩
        rcases g5 with g5 | g5
        · exact .inl fun e0 e1 => (step e0 e1).trans (g5 e0 e1)
        · exact .inr fun e0 e1 => (step e0 e1).trans (g5 e0 e1)
    · refine ⟨ns, xs, by omega, by omega, hns, hxs, .inl fun e0 e1 => ?_⟩
      show law05_FieldOrder_7_0_B law04_Fit _ _ _ _ _ _ _ _ _ e0 e1 = _
      unfold law05_FieldOrder_7_0_B
      by_cases h1 : i < sc.length
      · have c1 : decide ((i : Int) < (sc.length : Int)) = true := decide_eq_true (by omega)
        have c2 : decide ((i : Int) < (l.length : Int)) = false := decide_eq_false (by omega)
        simp only [c1, c2, cond_true, cond_false, Raw.eta]
      · have c1 : decide ((i : Int) < (sc.length : Int)) = false := decide_eq_false (by omega)
        simp only [c1, cond_false, Raw.eta]

theorem order_seek {R : Type} (sc : List Fld) (hsc : sc.length ≤ 8) (s : Str) (b : Bool) (ns : List Str) (xs : List Json) (x : Raw)
    (e0 : List Fld → Str → Bool → List Str → List Json → Raw → Option R) (e1 : List Fld → Str → Bool → Bool → List Str → List Json → Raw → Option R) : ∀ (n i : Nat), i ≤ sc.length → sc.length - i < n →
    law05_FieldOrder_14_0_L n sc s b ns xs (i : Int) x e0 e1 = bif (sc.drop i).any (fun f => f.name == s) then e1 sc s b b ns xs x else e0 sc s b ns xs x := by
  intro n
  induction n with
  | zero => intro i _ h; omega
  | succ n ih =>
    intro i hi hn
    show law05_FieldOrder_14_0_B (fun a1 a2 a3 a4 a5 a6 a7 => law05_FieldOrder_14_0_L n a1 a2 a3 a4 a5 a6 a7 e0 e1) _ _ _ _ _ _ _ e0 e1 = _
    unfold law05_FieldOrder_14_0_B
    by_cases h : i < sc.length
    · have c1 : decide ((i : Int) < (sc.length : Int)) = true := decide_eq_true (by omega)
      have c3 : (decide ((0 : Int) ≤ (i : Int)) && true) = true := by simp
      have hw : IntKind.i64.wrap ((i : Int) + 1) = ((i + 1 : Nat) : Int) := by rw [wrap_id (by omega) (by omega)]; omega
      have hg : sc.getD (i : Int).toNat (Ty.dflt .fld) = sc[i] := getD_at h _
      have e1' := ih (i + 1) (by omega) (by omega)
      rw [List.drop_eq_getElem_cons h, List.any_cons]
      simp only [c1, cond_true, hg, hw, Raw.eta, e1']
      rw [chk_pos c3]
      cases ((sc[i] : Fld).name == s) <;> simp only [cond_true, cond_false, Bool.true_or, Bool.false_or]
    · have c1 : decide ((i : Int) < (sc.length : Int)) = false := decide_eq_false (by omega)
      rw [List.drop_eq_nil_of_le (by omega)]
      simp only [c1, cond_false, Raw.eta, List.any_nil]

theorem idx_congr {α : Type} {p q : α → Bool} : ∀ (l : List α), (∀ x ∈ l, p x = q x) → l.findIdx? p = l.findIdx? q
  | [], _ => rfl
  | x :: l, h => by rw [List.findIdx?_cons, List.findIdx?_cons, h x (by simp), idx_congr l fun y hy => h y (by simp [hy])]

def objOf (ns : List Str) (xs : List Json) : Json := ⟨7, ⟨0, 0⟩, [], (mk ns xs [] []).1, (mk ns xs [] []).2⟩

theorem objOf_ok (ns : List Str) (xs : List Json) (hn : ns.length ≤ 1048576) (hns : ∀ s ∈ ns, s.length ≤ 1048576) (hj : ∀ y ∈ xs, JOk y) : JOk (objOf ns xs) := by
  have hml := mk_len ns xs [] [] rfl
  have hmm := mk_mem ns xs [] []
  have h2 : (mk ns xs [] []).1.length ≤ ns.length := by simpa using hml.2
  have h3 : (mk ns xs [] []).2.length = (mk ns xs [] []).1.length := hml.1.symm
  refine jok_mk ⟨by decide, by decide⟩ ⟨by decide, by decide⟩ ⟨by decide, by decide⟩ (by simp) (by omega) (fun s hs => ?_) (by omega) (fun y hy => ?_)
  · rcases hmm.1 s hs with h | h
    · cases h
    · exact hns s h
  · rcases hmm.2 y hy with h | h
    · cases h
    · exact hj y h

theorem objOf_at (ns : List Str) (xs : List Json) (s : Str) : at7 (objOf ns xs) s = look s ns xs := by
  unfold at7 objOf
  rw [if_pos rfl]
  show look s (mk ns xs [] []).1 (mk ns xs [] []).2 = _
  rw [look_mk s ns xs [] [] rfl]
  simp [look]

theorem objOf_bad {ns ns' : List Str} {xs xs' : List Json} {sc : List Fld} (h : ∀ f ∈ sc, look f.name ns xs = look f.name ns' xs') : ∀ f ∈ sc, bad (objOf ns xs) f = bad (objOf ns' xs') f := by
  intro f hf
  unfold bad
  rw [objOf_at, objOf_at, h f hf]
  rfl

theorem law05_FieldOrder_main {R : Type} (sc : List Fld) (hsc : sc.length ≤ 8) (hnm : ∀ f ∈ sc, f.name.length ≤ 1048576) (s : Str) (hs : s.length ≤ 1048576) (hno : ∀ f ∈ sc, f.name ≠ s) (ns : List Str) (xs : List Json) (hlen : ns.length = xs.length) (hn8 : ns.length ≤ 8)
    (hns : ∀ s ∈ ns, ∃ f ∈ sc, s = f.name) (hj : ∀ y ∈ xs, JOk y) (x : Raw) (hx : RawOk x) (k : Bool → Option R) :
    field_Make ns xs (fun y50 => law04_Fit x 2 (fun y51 => chk (decide ((1 + ns.length) * 16 ≤ 140737488355328)) (chk (decide ((1 + xs.length) * 88 ≤ 140737488355328)) (field_Make (([s] : List Str) ++ ns) (([y51] : List Json) ++ xs) (fun y52 => chk (decide ((0 + ns.length) * 16 ≤ 140737488355328)) (chk (decide ((ns.length + 1) * 16 ≤ 140737488355328)) (chk (decide ((0 + xs.length) * 88 ≤ 140737488355328)) (chk (decide ((xs.length + 1) * 88 ≤ 140737488355328)) (field_Make (ns ++ ([s] : List Str)) (xs ++ ([y51] : List Json)) (fun y53 => field_Check y50 sc (fun y54 => bif (!true) then (k false) else (field_Check y52 sc (fun y55 => bif (y55 != y54) then (k false) else (field_Check y53 sc (fun y56 => bif (y56 != y54) then (k false) else (bif (y51.kind == 7) then (k true) else (bif ((sc.length : Int) == 0) then (k true) else (field_Check y51 sc (fun y58 => k (y58 == 0)))))))))))))))))))) = k true := by
  obtain ⟨y, hy, hk⟩ := fit_eq (R := R) x hx 2 (by decide) (by decide)
  have hsl : ∀ t ∈ ns, t.length ≤ 1048576 := fun t ht => by obtain ⟨f, hf, rfl⟩ := hns t ht; exact hnm f hf
  have r1 : decide ((1 + ns.length) * 16 ≤ 140737488355328) = true := decide_eq_true (by omega)
  have r2 : decide ((1 + xs.length) * 88 ≤ 140737488355328) = true := decide_eq_true (by omega)
  have r3 : decide ((0 + ns.length) * 16 ≤ 140737488355328) = true := decide_eq_true (by omega)
  have r4 : decide ((ns.length + 1) * 16 ≤ 140737488355328) = true := decide_eq_true (by omega)
  have r5 : decide ((0 + xs.length) * 88 ≤ 140737488355328) = true := decide_eq_true (by omega)
  have r6 : decide ((xs.length + 1) * 88 ≤ 140737488355328) = true := decide_eq_true (by omega)
  have hja : ∀ z ∈ [y] ++ xs, JOk z := fun z hz => by
    rcases List.mem_append.1 hz with h | h
    · simp only [List.mem_singleton] at h; subst h; exact hy
    · exact hj z h
  have hjb : ∀ z ∈ xs ++ [y], JOk z := fun z hz => by
    rcases List.mem_append.1 hz with h | h
    · exact hj z h
    · simp only [List.mem_singleton] at h; subst h; exact hy
  have hsa : ∀ t ∈ [s] ++ ns, t.length ≤ 1048576 := fun t ht => by
    rcases List.mem_append.1 ht with h | h
    · simp only [List.mem_singleton] at h; subst h; exact hs
    · exact hsl t h
  have hsb : ∀ t ∈ ns ++ [s], t.length ≤ 1048576 := fun t ht => by
    rcases List.mem_append.1 ht with h | h
    · exact hsl t h
    · simp only [List.mem_singleton] at h; subst h; exact hs
  have hv : JOk (objOf ns xs) := objOf_ok ns xs (by omega) hsl hj
  have hva : JOk (objOf ([s] ++ ns) ([y] ++ xs)) := objOf_ok _ _ (by simp; omega) hsa hja
  have hvb : JOk (objOf (ns ++ [s]) (xs ++ [y])) := objOf_ok _ _ (by simp; omega) hsb hjb
  have m1 : ∀ k : Json → Option R, field_Make ns xs k = k (objOf ns xs) := fun k => make_eq ns xs (by omega) hj k
  have m2 : ∀ k : Json → Option R, field_Make ([s] ++ ns) ([y] ++ xs) k = k (objOf ([s] ++ ns) ([y] ++ xs)) := fun k => make_eq _ _ (by simp; omega) hja k
  have m3 : ∀ k : Json → Option R, field_Make (ns ++ [s]) (xs ++ [y]) k = k (objOf (ns ++ [s]) (xs ++ [y])) := fun k => make_eq _ _ (by simp; omega) hjb k
  have f1 : sc.findIdx? (bad (objOf ([s] ++ ns) ([y] ++ xs))) = sc.findIdx? (bad (objOf ns xs)) := idx_congr sc (objOf_bad fun f hf => by
    have hq : (f.name == s) = false := by simpa using hno f hf
    show look f.name (s :: ns) (y :: xs) = _
    simp only [look, hq, Bool.false_eq_true, if_false])
  have f2 : sc.findIdx? (bad (objOf (ns ++ [s]) (xs ++ [y]))) = sc.findIdx? (bad (objOf ns xs)) := idx_congr sc (objOf_bad fun f hf => by
    have hq : (f.name == s) = false := by simpa using hno f hf
    rw [look_append f.name s y ns xs hlen, hq]
    cases look f.name ns xs <;> rfl)
  simp only [m1, hk, r1, r2, r3, r4, r5, r6, chk, cond_true, m2, m3, Check_eq _ hv sc (by omega), Check_eq _ hva sc (by omega), Check_eq _ hvb sc (by omega), Check_eq _ hy sc (by omega), f1, f2, bne_self_eq_false, Bool.not_true, cond_false]
  by_cases h7 : y.kind = 7
  · have c7 : (y.kind == 7) = true := by simpa using h7
    rw [c7, cond_true]
  · have c7 : (y.kind == 7) = false := by simpa using h7
    rw [c7, cond_false]
    cases sc with
    | nil => rfl
    | cons f sc =>
      have c : (((f :: sc).length : Int) == 0) = false := by simp; omega
      have hb : bad y f = true := by unfold bad; simp [h7]
      rw [c, cond_false, List.findIdx?_cons, hb]
      rfl

theorem law05_FieldOrder_in {R : Type} (sc : List Fld) (hsc : sc.length ≤ 8) (hnm : ∀ f ∈ sc, f.name.length ≤ 1048576) (l : List Raw) (hl : l.length ≤ 1048576) (hr : ∀ x ∈ l, RawOk x) (s : Str) (hs : s.length ≤ 1048576) (x : Raw) (hx : RawOk x) (k : Bool → Option R)
    (F : List Fld → Str → Bool → List Str → List Json → Raw → Option R) (G : List Fld → Str → Bool → Bool → List Str → List Json → Raw → Option R) (G2 : List Fld → Str → Bool → Bool → List Str → List Json → Raw → Option R)
    (hF : ∀ ns xs, ns.length = xs.length → ns.length ≤ 8 → (∀ s ∈ ns, ∃ f ∈ sc, s = f.name) → (∀ y ∈ xs, JOk y) → (∀ f ∈ sc, f.name ≠ s) → F sc s true ns xs x = k true) (hG : ∀ a b c d e f, G a b true c d e f = k true) (hG2 : ∀ a b c d e f, G2 a b true c d e f = k true) (n : Nat) (hn : sc.length < n) :
    law05_FieldOrder_7_0_L n sc l s true ([] : List Str) ([] : List Json) 0 x (fun y17 y18 y19 y20 y21 y22 => law05_FieldOrder_14_0_L (List.length y17 + List.length y18 + List.length y20 + List.length y21 + Int.natAbs 0 + Raw.fu y22 + 3) y17 y18 y19 y20 y21 0 y22 F G) G2 = k true := by
  obtain ⟨ns, xs, g1, g2, g3, g4, g5⟩ := order_fit (R := R) sc hsc l hl hr s true x n 0 [] [] (by omega) (by omega) (by omega) rfl rfl (by simp) (by simp)
  rcases g5 with g5 | g5
  · refine (g5 _ _).trans ?_
    refine (order_seek sc hsc s true ns xs x F G _ 0 (by omega) (by omega)).trans ?_
    rw [List.drop_zero]
    cases hq : sc.any (fun f => f.name == s) with
    | true => rw [cond_true]; exact hG _ _ _ _ _ _
    | false =>
      rw [cond_false]
      refine hF ns xs g1 g2 g3 g4 fun f hf e => ?_
      rw [List.any_eq_false] at hq
      exact hq f hf (by simpa using e)
  · exact (g5 _ _).trans (hG2 _ _ _ _ _ _)

theorem law05_FieldOrder_true {R : Type} (sc : List Fld) (l : List Raw) (s : Str) (x : Raw) (hsc : Small 1048576 (.sl .fld sc .no)) (hl : Small 1048576 (.sl .raw l .no)) (hs : Small 1048576 (.str s)) (hx : ∀ c ∈ Ty.cells .raw x, Small 1048576 c) (k : Bool → Option R) : law05_FieldOrder sc l s x k = k true := by
  have hr : ∀ x ∈ l, RawOk x := fun x hx => hl.sl_inv.2 x hx
  have hnm : ∀ f ∈ sc, (f : Fld).name.length ≤ 1048576 := fun f hf => (hsc.sl_inv.2 f hf (.str (f : Fld).name) (by simp [Ty.cells])).str_inv
  unfold law05_FieldOrder law05_FieldOrder_X
  rw [law05_awake_true]
  by_cases h : sc.length > 8
  · have c1 : decide ((sc.length : Int) > (8 : Int)) = true := decide_eq_true (by omega)
    have c2 : decide ((8 : Int) ≤ (sc.length : Int)) = true := decide_eq_true (by omega)
    simp only [c1, cond_true, Json.eta, Raw.eta]
    rw [chk_pos c2]
    have hnm' : ∀ f ∈ (sc.drop 0).take (8 - 0), (f : Fld).name.length ≤ 1048576 := fun f hf => hnm f (List.mem_of_mem_drop (List.mem_of_mem_take hf))
    have h8 : ((sc.drop 0).take (8 - 0)).length ≤ 8 := by simp; omega
    exact law05_FieldOrder_in _ h8 hnm' l hl.sl_inv.1 hr s hs.str_inv x hx k _ _ _
      (fun ns xs g1 g2 g3 g4 g5 => law05_FieldOrder_main _ h8 hnm' s hs.str_inv g5 ns xs g1 g2 g3 g4 x hx k) (fun _ _ _ _ _ _ => rfl) (fun _ _ _ _ _ _ => rfl) _ (by omega)
  · have c1 : decide ((sc.length : Int) > (8 : Int)) = false := decide_eq_false (by omega)
    simp only [c1, cond_false, Json.eta, Raw.eta]
    have h8 : sc.length ≤ 8 := by omega
    exact law05_FieldOrder_in _ h8 hnm l hl.sl_inv.1 hr s hs.str_inv x hx k _ _ _
      (fun ns xs g1 g2 g3 g4 g5 => law05_FieldOrder_main _ h8 hnm s hs.str_inv g5 ns xs g1 g2 g3 g4 x hx k) (fun _ _ _ _ _ _ => rfl) (fun _ _ _ _ _ _ => rfl) _ (by omega)
end Go.Proofs.Ytcocpfgemdkkfaa

