/-
  JsonApart, part 8 of 10.
-/
import Derived.Lib.ItoaMem
import Derived.Test.YtmlkkgfenfdndaaGreatDoorJsonApartB7
set_option linter.unusedSimpArgs false
set_option linter.unnecessarySimpa false
set_option linter.unusedVariables false
set_option linter.unusedSectionVars false
/-
  Functions of the program as pure Lean functions, and the ties; printed by wip/tools/emit.py.
-/
set_option maxRecDepth 100000
namespace Go.Proofs.YtmlkkgfenfdndaaGreatDoor
open Go Go.Yard
/-! ### humpyard/quote.Quote -/
abbrev q70_ty (R : Type) : Type := Str → (Str → Bool → Option R) → Option R
abbrev q70_p : List Pat := [.leaf (.str)]
abbrev q70_q : List HPat := []
noncomputable def q70_rr {R : Type} (fn : q70_ty R) : Pat.dens q70_p → HPat.dens q70_q → (V → Heap → Option R) → Option R := fun x y k => fn x.1 (fun q0 q1 => k (.tuple [.str q0, .bool q1]) [])
abbrev q70_6_0_ty (R : Type) : Type := Nat → (List Int) → Str → Nat → ((List Int) → Option R) → Option R
noncomputable def q70_E (R : Type) (q68 : q68_ty R) (q26 : q26_ty R) (q25 : q25_ty R) (q71 : q71_ty R) (q21 : q21_ty R) (q24 : q24_ty R) : Env R := fun i => match i with
  | 49 => some (true, (specBy q68_p q68_q (q68_rr q68) specNo))
  | 50 => some (false, (specBy q25_p q25_q (q25_rr q25) (specBy q26_p q26_q (q26_rr q26) specNo)))
  | 51 => some (true, (specBy q71_p q71_q (q71_rr q71) specNo))
  | 52 => some (false, (specBy q21_p q21_q (q21_rr q21) specNo))
  | 53 => some (false, (specBy q24_p q24_q (q24_rr q24) specNo))
  | 39 => some (false, (bstr_S R))
  | _ => none
theorem q70_EOk (R : Type) : EOk Tryz.prog (q70_E R q68 q26 q25 q71 q21 q24) := by
  intro i b sp h
  unfold q70_E at h
  split at h
  · cases h; exact ⟨(q68_S_ok R _ (specNo_ok _)), fun h => nomatch h⟩
  · cases h; exact ⟨(q25_S_ok R _ (q26_S_ok R _ (specNo_ok _))), fun _ h => nomatch h⟩
  · cases h; exact ⟨(q71_S_ok R _ (specNo_ok _)), fun h => nomatch h⟩
  · cases h; exact ⟨(q21_S_ok R _ (specNo_ok _)), fun _ h => nomatch h⟩
  · cases h; exact ⟨(q24_S_ok R _ (specNo_ok _)), fun _ h => nomatch h⟩
  · cases h; exact ⟨(bstr_is), fun _ _ => bstr_soft⟩
  · cases h
noncomputable def q70_6_0_B {R : Type} (q25 : q25_ty R) (q71 : q71_ty R) (q21 : q21_ty R) (q24 : q24_ty R) (rec' : (List Int) → Str → Nat → Option R) (x4 : List Int) (x5 : Str) (x6 : Nat) (e0 : (List Int) → Option R) : Option R :=
  bif decide (x6 < x5.length) then (q71 ((runeAt x5 x6).1 : Int) (fun y7 => bif (y7 != 0) then (q25 92 x4 (fun y8 => q25 y7 y8 (fun y9 => rec' y9 x5 (x6 + (runeAt x5 x6).2)))) else (bif (decide (((runeAt x5 x6).1 : Int) < (32 : Int))) then (q21 ([92, 117, 48, 48] : Str) x4 (fun y10 y11 => chk (decide ((0 : Int) ≤ (Int.fdiv ((runeAt x5 x6).1 : Int) (2 ^ (min 4 IntKind.i32.bits)))) && decide ((Int.fdiv ((runeAt x5 x6).1 : Int) (2 ^ (min 4 IntKind.i32.bits))) < (16 : Int))) (q25 ((([48, 49, 50, 51, 52, 53, 54, 55, 56, 57, 97, 98, 99, 100, 101, 102] : Str).getD ((Int.fdiv ((runeAt x5 x6).1 : Int) (2 ^ (min 4 IntKind.i32.bits))).toNat) 0).toNat : Int) y11 (fun y12 => chk (decide ((0 : Int) ≤ (IntKind.i32.wrap ((BitVec.ofInt IntKind.i32.bits ((runeAt x5 x6).1 : Int) &&& BitVec.ofInt IntKind.i32.bits 15).toNat : Int))) && decide ((IntKind.i32.wrap ((BitVec.ofInt IntKind.i32.bits ((runeAt x5 x6).1 : Int) &&& BitVec.ofInt IntKind.i32.bits 15).toNat : Int)) < (16 : Int))) (q25 ((([48, 49, 50, 51, 52, 53, 54, 55, 56, 57, 97, 98, 99, 100, 101, 102] : Str).getD ((IntKind.i32.wrap ((BitVec.ofInt IntKind.i32.bits ((runeAt x5 x6).1 : Int) &&& BitVec.ofInt IntKind.i32.bits 15).toNat : Int)).toNat) 0).toNat : Int) y12 (fun y13 => rec' y13 x5 (x6 + (runeAt x5 x6).2))))))) else (q24 ((runeAt x5 x6).1 : Int) x4 (fun y14 y15 => rec' y15 x5 (x6 + (runeAt x5 x6).2)))))) else (e0 x4)
noncomputable def q70_6_0_L {R : Type} : q70_6_0_ty R
  | 0, _, _, _, _ => none
  | n + 1, x0', x1', x2', e0 => q70_6_0_B q25 q71 q21 q24 (fun x0' x1' x2' => q70_6_0_L n x0' x1' x2' e0) x0' x1' x2' e0
noncomputable def q70_6_0_h : Hint := { live := [4, 13], own := [], rows := [], cells := [], drop := [], out := [2, 3, 4] }
abbrev q70_6_0_D : Type := (List Int) × Str × Nat
noncomputable def q70_6_0_enc : q70_6_0_D → St := fun d => ⟨[.undef, .undef, .undef, .undef, .ptr 0 0, .undef, .undef, .undef, .undef, .undef, .undef, .undef, .undef, .ptr 1 0, .undef, .undef, .undef, .undef, .undef, .undef, .undef, .undef, .undef, .undef, .undef, .undef, .undef, .undef, .undef, .undef, .undef, .undef, .undef, .undef, .undef, .undef, .undef, .undef, .undef, .undef, .undef], [.bld (.sl (.int .u8) d.1 (.own 2)), .iter d.2.1 d.2.2, .tok]⟩
noncomputable def q70_6_0_x0 {R : Type} (K : Ex → St → Option R) (q0 : List Int) : Option R := K (.exit 0) ⟨[.undef, .undef, .undef, .undef, .ptr 0 0, .undef, .undef, .undef, .undef, .undef, .undef, .undef, .undef, .undef, .undef, .undef, .undef, .undef, .undef, .undef, .undef, .undef, .undef, .undef, .undef, .undef, .undef, .undef, .undef, .undef, .undef, .undef, .undef, .undef, .undef, .undef, .undef, .undef, .undef, .undef, .undef], [.bld (.sl (.int .u8) q0 (.own 1)), .tok]⟩
noncomputable def q70_6_0_s {R : Type} (q25 : q25_ty R) (q71 : q71_ty R) (q21 : q21_ty R) (q24 : q24_ty R) (K : Ex → St → Option R) (rc : q70_6_0_D → Option R) (d : q70_6_0_D) : Option R := q70_6_0_B q25 q71 q21 q24 (fun z0 z1 z2 => rc (z0, z1, z2)) d.1 d.2.1 d.2.2 (q70_6_0_x0 K)
noncomputable def q70_6_0_A {R : Type} (K : Ex → St → Option R) (n : Nat) (d : q70_6_0_D) : Option R := q70_6_0_L n d.1 d.2.1 d.2.2 (q70_6_0_x0 K)
abbrev q70_6_0_p : List Pat := [.leaf (.undef), .leaf (.undef), .leaf (.undef), .leaf (.undef), .leaf (.ptr 0 0), .leaf (.undef), .leaf (.undef), .leaf (.undef), .leaf (.undef), .leaf (.undef), .leaf (.undef), .leaf (.undef), .leaf (.undef), .leaf (.ptr 1 0), .leaf (.undef), .leaf (.undef), .leaf (.undef), .leaf (.undef), .leaf (.undef), .leaf (.undef), .leaf (.undef), .leaf (.undef), .leaf (.undef), .leaf (.undef), .leaf (.undef), .leaf (.undef), .leaf (.undef), .leaf (.undef), .leaf (.undef), .leaf (.undef), .leaf (.undef), .leaf (.undef), .leaf (.undef), .leaf (.undef), .leaf (.undef), .leaf (.undef), .leaf (.undef), .leaf (.undef), .leaf (.undef), .leaf (.undef), .leaf (.undef)]
abbrev q70_6_0_q : List HPat := [.bld (.slo (.int .u8) 2), .iter, .tok]
noncomputable def q70_6_0_f (x : Pat.dens q70_6_0_p) (y : HPat.dens q70_6_0_q) : Nat := (List.length y.1 + List.length y.2.1.1 + 64)
noncomputable def q70_6_0_d (x : Pat.dens q70_6_0_p) (y : HPat.dens q70_6_0_q) : q70_6_0_D := (y.1, y.2.1.1, y.2.1.2)
noncomputable def q70_6_0_rr {R : Type} (L : q70_6_0_ty R) : Pat.dens q70_6_0_p → HPat.dens q70_6_0_q → (Ex → St → Option R) → Option R := fun x y K => L (q70_6_0_f x y) y.1 y.2.1.1 y.2.1.2 (q70_6_0_x0 K)
noncomputable def q70_T (R : Type) (q70_6_0_L : q70_6_0_ty R) : Nat → Option (Hint × LSpec R) := fun i => match i with
  | 6 => some (q70_6_0_h, (loopBy q70_6_0_p q70_6_0_q (q70_6_0_rr q70_6_0_L) loopNo))
  | _ => none
theorem q70_6_0_B_ok {R : Type} (q68 : q68_ty R) (q26 : q26_ty R) (q25 : q25_ty R) (q71 : q71_ty R) (q21 : q21_ty R) (q24 : q24_ty R) (q70_6_0_L : q70_6_0_ty R) (K : Ex → St → Option R) (rc : St → Option R) (d : q70_6_0_D) : roundOf tt (q70_E R q68 q26 q25 q71 q21 q24) (q70_T R q70_6_0_L) 0 ((loopsOf (codeOf Tryz.f26)).getD 0 .skip) q70_6_0_h (q70_6_0_enc d) rc K = q70_6_0_s q25 q71 q21 q24 K (fun d => rc (q70_6_0_enc d)) d := by kernel_rfl
theorem q70_6_0_A_succ {R : Type} (K : Ex → St → Option R) (n : Nat) (d : q70_6_0_D) : q70_6_0_A K (n + 1) d = q70_6_0_s q25 q71 q21 q24 K (q70_6_0_A K n) d := by kernel_rfl
theorem q70_6_0_A_zero {R : Type} (K : Ex → St → Option R) (d : q70_6_0_D) : q70_6_0_A K 0 d = none := by kernel_rfl
theorem q70_6_0_e_ok (x : Pat.dens q70_6_0_p) (y : HPat.dens q70_6_0_q) : (⟨Pat.encL q70_6_0_p x, HPat.encL q70_6_0_q y⟩ : St) = q70_6_0_enc (q70_6_0_d x y) := by kernel_rfl
theorem q70_6_0_r_ok {R : Type} (x : Pat.dens q70_6_0_p) (y : HPat.dens q70_6_0_q) (K : Ex → St → Option R) : q70_6_0_rr (q70_6_0_L) x y K = q70_6_0_A K (q70_6_0_f x y) (q70_6_0_d x y) := by kernel_rfl
theorem q70_6_0_ok {R : Type} (other : LSpec R) (ho : LsOk tt (q70_E R q68 q26 q25 q71 q21 q24) (q70_T R q70_6_0_L) 0 ((loopsOf (codeOf Tryz.f26)).getD 0 .skip) q70_6_0_h other) : LsOk tt (q70_E R q68 q26 q25 q71 q21 q24) (q70_T R q70_6_0_L) 0 ((loopsOf (codeOf Tryz.f26)).getD 0 .skip) q70_6_0_h (loopBy q70_6_0_p q70_6_0_q (q70_6_0_rr (q70_6_0_L)) other) :=
  loopBy_tie (A := q70_6_0_A) ho (loop_tie q70_6_0_enc (q70_6_0_s q25 q71 q21 q24) (q70_6_0_A) (q70_6_0_A_zero) (q70_6_0_B_ok q68 q26 q25 q71 q21 q24 q70_6_0_L) (q70_6_0_A_succ)) q70_6_0_f q70_6_0_d q70_6_0_e_ok (q70_6_0_r_ok)
noncomputable def q70_X {R : Type} (q68 : q68_ty R) (q26 : q26_ty R) (q25 : q25_ty R) (q70_6_0_L : q70_6_0_ty R) (x1 : Str) (k0 : Str → Bool → Option R) : Option R :=
  q68 x1 (fun y2 => bif (!y2) then (k0 ([] : Str) false) else (q26 34 (fun y3 => q70_6_0_L (List.length y3 + List.length x1 + 64) y3 x1 0 (fun y16 => q25 34 y16 (fun y17 => k0 (bstr y17) true)))))
noncomputable def q70 {R : Type} : q70_ty R := fun x1 k0 => q70_X q68 q26 q25 q70_6_0_L x1 k0
theorem q70_ok {R : Type} (q68 : q68_ty R) (q26 : q26_ty R) (q25 : q25_ty R) (q71 : q71_ty R) (q21 : q21_ty R) (q24 : q24_ty R) (q70_6_0_L : q70_6_0_ty R) (x1 : Str) (k : V → Heap → Option R) : funK tt (q70_E R q68 q26 q25 q71 q21 q24) (q70_T R q70_6_0_L) false Tryz.f26 (codeOf Tryz.f26) [.str x1] [] k =
    q70_X q68 q26 q25 q70_6_0_L x1 (fun q0 q1 => k (.tuple [.str q0, .bool q1]) []) := by kernel_rfl
theorem q70_loops (R : Type) : ∀ a ∈ loopsOf (codeOf Tryz.f26), LoopOk tt (q70_E R q68 q26 q25 q71 q21 q24) (q70_T R q70_6_0_L) 0 a := by
  refine loops_ok 1 (by kernel_rfl) fun i hi => ?_
  match i, hi with
  | 0, _ => exact loopOk_some (by kernel_rfl) (q70_6_0_ok _ loopNo_ok)
  | n + 1, hi => omega
theorem q70_S_ok (R : Type) (other : Yard.Spec R) (ho : Yard.Spec.Ok Tryz.prog 26 other) : Yard.Spec.Ok Tryz.prog 26 (specBy q70_p q70_q (q70_rr q70) other) :=
  specBy_ok ho (funK_sound TT mixed (q70_EOk R) (keep := false) rfl rfl rfl rfl 0 (q70_loops R)) fun (x : Pat.dens q70_p) (y : HPat.dens q70_q) k => q70_ok q68 q26 q25 q71 q21 q24 q70_6_0_L x.1 k
/-! ### humpyard/humpyardlaw01.pick -/
abbrev q82_ty (R : Type) : Type := Int → Int → (Int → Option R) → Option R
abbrev q82_p : List Pat := [.leaf (.int .i64), .leaf (.int .i64)]
abbrev q82_q : List HPat := []
noncomputable def q82_rr {R : Type} (fn : q82_ty R) : Pat.dens q82_p → HPat.dens q82_q → (V → Heap → Option R) → Option R := fun x y k => fn x.1 x.2.1 (fun q0 => k (.int .i64 q0) [])
noncomputable def q82_E (R : Type) : Env R := fun i => match i with
  | _ => none
theorem q82_EOk (R : Type) : EOk Tryz.prog (q82_E R) := by
  intro i b sp h
  unfold q82_E at h
  split at h
  · cases h
noncomputable def q82_T (R : Type) : Nat → Option (Hint × LSpec R) := fun i => match i with
  | _ => none
noncomputable def q82_X {R : Type} (x1 : Int) (x2 : Int) (k0 : Int → Option R) : Option R :=
  bif (decide (x1 < (0 : Int))) then (chk (!decide (x2 = 0)) (k0 (Int.tmod (IntKind.i64.wrap (0 - (IntKind.i64.wrap (x1 + 1)))) x2))) else (chk (!decide (x2 = 0)) (k0 (Int.tmod x1 x2)))
noncomputable def q82 {R : Type} : q82_ty R := fun x1 x2 k0 => q82_X x1 x2 k0
theorem q82_ok {R : Type} (x1 : Int) (x2 : Int) (k : V → Heap → Option R) : funK tt (q82_E R) (q82_T R) false Tryz.f54 (codeOf Tryz.f54) [.int .i64 x1, .int .i64 x2] [] k =
    q82_X x1 x2 (fun q0 => k (.int .i64 q0) []) := by kernel_rfl
theorem q82_loops (R : Type) : ∀ a ∈ loopsOf (codeOf Tryz.f54), LoopOk tt (q82_E R) (q82_T R) 0 a := by
  refine loops_ok 0 (by kernel_rfl) fun i hi => ?_
  omega
theorem q82_S_ok (R : Type) (other : Yard.Spec R) (ho : Yard.Spec.Ok Tryz.prog 54 other) : Yard.Spec.Ok Tryz.prog 54 (specBy q82_p q82_q (q82_rr q82) other) :=
  specBy_ok ho (funK_sound TT mixed (q82_EOk R) (keep := false) rfl rfl rfl rfl 0 (q82_loops R)) fun (x : Pat.dens q82_p) (y : HPat.dens q82_q) k => q82_ok x.1 x.2.1 k
/-! ### humpyard/humpyardlaw01.Fit -/
abbrev q85_ty (R : Type) : Type := Int → Int → (Dcm → Option R) → Option R
abbrev q85_p : List Pat := [.leaf (.int .i64), .leaf (.int .i64)]
abbrev q85_q : List HPat := []
noncomputable def q85_rr {R : Type} (fn : q85_ty R) : Pat.dens q85_p → HPat.dens q85_q → (V → Heap → Option R) → Option R := fun x y k => fn x.1 x.2.1 (fun q0 => k (.agg [.int .i64 q0.mant, .int .i64 q0.exp]) [])
abbrev q85_3_0_ty (R : Type) : Type := Nat → Int → Int → Dcm → (Int → Int → Dcm → Option R) → Option R
noncomputable def q85_E (R : Type) (q82 : q82_ty R) : Env R := fun i => match i with
  | 54 => some (true, (specBy q82_p q82_q (q82_rr q82) specNo))
  | _ => none
theorem q85_EOk (R : Type) : EOk Tryz.prog (q85_E R q82) := by
  intro i b sp h
  unfold q85_E at h
  split at h
  · cases h; exact ⟨(q82_S_ok R _ (specNo_ok _)), fun h => nomatch h⟩
  · cases h
noncomputable def q85_3_0_B {R : Type} (rec' : Int → Int → Dcm → Option R) (x5 : Int) (x6 : Int) (x7 : Dcm) (e0 : Int → Int → Dcm → Option R) : Option R :=
  bif (x5 != 0) then (bif ((Int.tmod x5 10) == 0) then (rec' (IntKind.i64.wrap (Int.tdiv x5 10)) x6 x7) else (e0 x5 x6 x7)) else (e0 x5 x6 x7)
noncomputable def q85_3_0_L {R : Type} : q85_3_0_ty R
  | 0, _, _, _, _ => none
  | n + 1, x0', x1', x2', e0 => q85_3_0_B (fun x0' x1' x2' => q85_3_0_L n x0' x1' x2' e0) x0' x1' x2' e0
noncomputable def q85_3_0_h : Hint := { live := [4, 5, 6], own := [], rows := [], cells := [], drop := [], out := [4, 5, 6] }
abbrev q85_3_0_D : Type := Int × Int × Dcm
noncomputable def q85_3_0_enc : q85_3_0_D → St := fun d => ⟨[.undef, .undef, .undef, .undef, .ptr 0 0, .int .i64 d.1, .int .i64 d.2.1, .undef, .undef, .undef, .undef, .undef, .undef, .undef, .undef, .undef, .undef, .undef, .undef, .undef, .undef, .undef, .undef, .undef, .undef, .undef, .undef], [.cells [.int .i64 d.2.2.mant, .int .i64 d.2.2.exp]]⟩
noncomputable def q85_3_0_x0 {R : Type} (K : Ex → St → Option R) (q0 : Int) (q1 : Int) (q2 : Dcm) : Option R := K (.exit 0) ⟨[.undef, .undef, .undef, .undef, .ptr 0 0, .int .i64 q0, .int .i64 q1, .undef, .undef, .undef, .undef, .undef, .undef, .undef, .undef, .undef, .undef, .undef, .undef, .undef, .undef, .undef, .undef, .undef, .undef, .undef, .undef], [.cells [.int .i64 q2.mant, .int .i64 q2.exp]]⟩
noncomputable def q85_3_0_s {R : Type} (K : Ex → St → Option R) (rc : q85_3_0_D → Option R) (d : q85_3_0_D) : Option R := q85_3_0_B (fun z0 z1 z2 => rc (z0, z1, z2)) d.1 d.2.1 d.2.2 (q85_3_0_x0 K)
noncomputable def q85_3_0_A {R : Type} (K : Ex → St → Option R) (n : Nat) (d : q85_3_0_D) : Option R := q85_3_0_L n d.1 d.2.1 d.2.2 (q85_3_0_x0 K)
abbrev q85_3_0_p : List Pat := [.leaf (.undef), .leaf (.undef), .leaf (.undef), .leaf (.undef), .leaf (.ptr 0 0), .leaf (.int .i64), .leaf (.int .i64), .leaf (.undef), .leaf (.undef), .leaf (.undef), .leaf (.undef), .leaf (.undef), .leaf (.undef), .leaf (.undef), .leaf (.undef), .leaf (.undef), .leaf (.undef), .leaf (.undef), .leaf (.undef), .leaf (.undef), .leaf (.undef), .leaf (.undef), .leaf (.undef), .leaf (.undef), .leaf (.undef), .leaf (.undef), .leaf (.undef)]
abbrev q85_3_0_q : List HPat := [.cells [.int .i64, .int .i64]]
noncomputable def q85_3_0_f (x : Pat.dens q85_3_0_p) (y : HPat.dens q85_3_0_q) : Nat := (Int.natAbs x.2.2.2.2.2.1 + Int.natAbs x.2.2.2.2.2.2.1 + Dcm.fu (⟨y.1.1, y.1.2.1⟩ : Dcm) + 64)
noncomputable def q85_3_0_d (x : Pat.dens q85_3_0_p) (y : HPat.dens q85_3_0_q) : q85_3_0_D := (x.2.2.2.2.2.1, x.2.2.2.2.2.2.1, (⟨y.1.1, y.1.2.1⟩ : Dcm))
noncomputable def q85_3_0_rr {R : Type} (L : q85_3_0_ty R) : Pat.dens q85_3_0_p → HPat.dens q85_3_0_q → (Ex → St → Option R) → Option R := fun x y K => L (q85_3_0_f x y) x.2.2.2.2.2.1 x.2.2.2.2.2.2.1 (⟨y.1.1, y.1.2.1⟩ : Dcm) (q85_3_0_x0 K)
noncomputable def q85_T (R : Type) (q85_3_0_L : q85_3_0_ty R) : Nat → Option (Hint × LSpec R) := fun i => match i with
  | 3 => some (q85_3_0_h, (loopBy q85_3_0_p q85_3_0_q (q85_3_0_rr q85_3_0_L) loopNo))
  | _ => none
theorem q85_3_0_B_ok {R : Type} (q82 : q82_ty R) (q85_3_0_L : q85_3_0_ty R) (K : Ex → St → Option R) (rc : St → Option R) (d : q85_3_0_D) : roundOf tt (q85_E R q82) (q85_T R q85_3_0_L) 0 ((loopsOf (codeOf Tryz.f28)).getD 0 .skip) q85_3_0_h (q85_3_0_enc d) rc K = q85_3_0_s K (fun d => rc (q85_3_0_enc d)) d := by kernel_rfl
theorem q85_3_0_A_succ {R : Type} (K : Ex → St → Option R) (n : Nat) (d : q85_3_0_D) : q85_3_0_A K (n + 1) d = q85_3_0_s K (q85_3_0_A K n) d := by kernel_rfl
theorem q85_3_0_A_zero {R : Type} (K : Ex → St → Option R) (d : q85_3_0_D) : q85_3_0_A K 0 d = none := by kernel_rfl
theorem q85_3_0_e_ok (x : Pat.dens q85_3_0_p) (y : HPat.dens q85_3_0_q) : (⟨Pat.encL q85_3_0_p x, HPat.encL q85_3_0_q y⟩ : St) = q85_3_0_enc (q85_3_0_d x y) := by kernel_rfl
theorem q85_3_0_r_ok {R : Type} (x : Pat.dens q85_3_0_p) (y : HPat.dens q85_3_0_q) (K : Ex → St → Option R) : q85_3_0_rr (q85_3_0_L) x y K = q85_3_0_A K (q85_3_0_f x y) (q85_3_0_d x y) := by kernel_rfl
theorem q85_3_0_ok {R : Type} (other : LSpec R) (ho : LsOk tt (q85_E R q82) (q85_T R q85_3_0_L) 0 ((loopsOf (codeOf Tryz.f28)).getD 0 .skip) q85_3_0_h other) : LsOk tt (q85_E R q82) (q85_T R q85_3_0_L) 0 ((loopsOf (codeOf Tryz.f28)).getD 0 .skip) q85_3_0_h (loopBy q85_3_0_p q85_3_0_q (q85_3_0_rr (q85_3_0_L)) other) :=
  loopBy_tie (A := q85_3_0_A) ho (loop_tie q85_3_0_enc (q85_3_0_s) (q85_3_0_A) (q85_3_0_A_zero) (q85_3_0_B_ok q82 q85_3_0_L) (q85_3_0_A_succ)) q85_3_0_f q85_3_0_d q85_3_0_e_ok (q85_3_0_r_ok)
noncomputable def q85_X {R : Type} (q82 : q82_ty R) (q85_3_0_L : q85_3_0_ty R) (x1 : Int) (x2 : Int) (k0 : Dcm → Option R) : Option R :=
  q82 x1 2000000000000001 (fun y3 => q82 x2 19 (fun y4 => q85_3_0_L (Int.natAbs (IntKind.i64.wrap (y3 - 1000000000000000)) + Int.natAbs (IntKind.i64.wrap (y4 - 9)) + Dcm.fu (⟨0, 0⟩ : Dcm) + 64) (IntKind.i64.wrap (y3 - 1000000000000000)) (IntKind.i64.wrap (y4 - 9)) (⟨0, 0⟩ : Dcm) (fun y9 y10 y11 => bif (y9 == 0) then (k0 (⟨y9, 0⟩ : Dcm)) else (k0 (⟨y9, y10⟩ : Dcm)))))
noncomputable def q85 {R : Type} : q85_ty R := fun x1 x2 k0 => q85_X q82 q85_3_0_L x1 x2 k0
theorem q85_ok {R : Type} (q82 : q82_ty R) (q85_3_0_L : q85_3_0_ty R) (x1 : Int) (x2 : Int) (k : V → Heap → Option R) : funK tt (q85_E R q82) (q85_T R q85_3_0_L) false Tryz.f28 (codeOf Tryz.f28) [.int .i64 x1, .int .i64 x2] [] k =
    q85_X q82 q85_3_0_L x1 x2 (fun q0 => k (.agg [.int .i64 q0.mant, .int .i64 q0.exp]) []) := by kernel_rfl
theorem q85_loops (R : Type) : ∀ a ∈ loopsOf (codeOf Tryz.f28), LoopOk tt (q85_E R q82) (q85_T R q85_3_0_L) 0 a := by
  refine loops_ok 1 (by kernel_rfl) fun i hi => ?_
  match i, hi with
  | 0, _ => exact loopOk_some (by kernel_rfl) (q85_3_0_ok _ loopNo_ok)
  | n + 1, hi => omega
theorem q85_S_ok (R : Type) (other : Yard.Spec R) (ho : Yard.Spec.Ok Tryz.prog 28 other) : Yard.Spec.Ok Tryz.prog 28 (specBy q85_p q85_q (q85_rr q85) other) :=
  specBy_ok ho (funK_sound TT mixed (q85_EOk R) (keep := false) rfl rfl rfl rfl 0 (q85_loops R)) fun (x : Pat.dens q85_p) (y : HPat.dens q85_q) k => q85_ok q82 q85_3_0_L x.1 x.2.1 k
/-! ### humpyard/decimal.Right -/
abbrev q63_ty (R : Type) : Type := Dcm → (Bool → Option R) → Option R
abbrev q63_p : List Pat := [.agg [.int .i64, .int .i64]]
abbrev q63_q : List HPat := []
noncomputable def q63_rr {R : Type} (fn : q63_ty R) : Pat.dens q63_p → HPat.dens q63_q → (V → Heap → Option R) → Option R := fun x y k => fn (⟨x.1.1, x.1.2.1⟩ : Dcm) (fun q0 => k (.bool q0) [])
noncomputable def q63_E (R : Type) (q52 : q52_ty R) : Env R := fun i => match i with
  | 91 => some (true, (specBy q52_p q52_q (q52_rr q52) specNo))
  | _ => none
theorem q63_EOk (R : Type) : EOk Tryz.prog (q63_E R q52) := by
  intro i b sp h
  unfold q63_E at h
  split at h
  · cases h; exact ⟨(q52_S_ok R _ (specNo_ok _)), fun h => nomatch h⟩
  · cases h
noncomputable def q63_T (R : Type) : Nat → Option (Hint × LSpec R) := fun i => match i with
  | _ => none
noncomputable def q63_X {R : Type} (q52 : q52_ty R) (x1 : Dcm) (k0 : Bool → Option R) : Option R :=
  bif (x1.mant == 0) then (k0 (x1.exp == 0)) else (bif ((Int.tmod x1.mant 10) != 0) then (q52 (-1000000000000000) x1.mant 1000000000000000 (fun y2 => bif y2 then (q52 (-9) x1.exp 9 (fun y3 => k0 y3)) else (k0 false))) else (k0 false))
noncomputable def q63 {R : Type} : q63_ty R := fun x1 k0 => q63_X q52 x1 k0
theorem q63_ok {R : Type} (q52 : q52_ty R) (x1 : Dcm) (k : V → Heap → Option R) : funK tt (q63_E R q52) (q63_T R) false Tryz.f65 (codeOf Tryz.f65) [.agg [.int .i64 x1.mant, .int .i64 x1.exp]] [] k =
    q63_X q52 x1 (fun q0 => k (.bool q0) []) := by kernel_rfl
theorem q63_loops (R : Type) : ∀ a ∈ loopsOf (codeOf Tryz.f65), LoopOk tt (q63_E R q52) (q63_T R) 0 a := by
  refine loops_ok 0 (by kernel_rfl) fun i hi => ?_
  omega
theorem q63_S_ok (R : Type) (other : Yard.Spec R) (ho : Yard.Spec.Ok Tryz.prog 65 other) : Yard.Spec.Ok Tryz.prog 65 (specBy q63_p q63_q (q63_rr q63) other) :=
  specBy_ok ho (funK_sound TT mixed (q63_EOk R) (keep := false) rfl rfl rfl rfl 0 (q63_loops R)) fun (x : Pat.dens q63_p) (y : HPat.dens q63_q) k => q63_ok q52 (⟨x.1.1, x.1.2.1⟩ : Dcm) k
/-! ### (*strings.Builder).WriteString -/
abbrev q20_ty (R : Type) : Type := Str → (Int → (List Int) → Option R) → Option R
abbrev q20_p : List Pat := [.leaf (.ptr 0 0), .leaf (.str)]
abbrev q20_q : List HPat := [.bld (.nilsl)]
noncomputable def q20_rr {R : Type} (fn : q20_ty R) : Pat.dens q20_p → HPat.dens q20_q → (V → Heap → Option R) → Option R := fun x y k => fn x.2.1 (fun q0 q1 => k (.tuple [.int .i64 q0, .niliface]) [.bld (.sl (.int .u8) q1 (.own 1)), .tok])
noncomputable def q20_E (R : Type) : Env R := fun i => match i with
  | 73 => some (false, (bcc_S R))
  | _ => none
theorem q20_EOk (R : Type) : EOk Tryz.prog (q20_E R) := by
  intro i b sp h
  unfold q20_E at h
  split at h
  · cases h; exact ⟨(bcc_is), fun _ h => nomatch h⟩
  · cases h
noncomputable def q20_T (R : Type) : Nat → Option (Hint × LSpec R) := fun i => match i with
  | _ => none
noncomputable def q20_X {R : Type} (x1 : Str) (k0 : Int → (List Int) → Option R) : Option R :=
  chk (decide ((0 + (bytesN x1).length) * 1 ≤ 140737488355328)) (k0 (x1.length : Int) (bytesN x1))
noncomputable def q20 {R : Type} : q20_ty R := fun x1 k0 => q20_X x1 k0
theorem q20_ok {R : Type} (x1 : Str) (k : V → Heap → Option R) : funK tt (q20_E R) (q20_T R) false Tryz.f52 (codeOf Tryz.f52) [.ptr 0 0, .str x1] [.bld (.nilsl)] k =
    q20_X x1 (fun q0 q1 => k (.tuple [.int .i64 q0, .niliface]) [.bld (.sl (.int .u8) q1 (.own 1)), .tok]) := by kernel_rfl
theorem q20_loops (R : Type) : ∀ a ∈ loopsOf (codeOf Tryz.f52), LoopOk tt (q20_E R) (q20_T R) 1 a := by
  refine loops_ok 0 (by kernel_rfl) fun i hi => ?_
  omega
theorem q20_S_ok (R : Type) (other : Yard.Spec R) (ho : Yard.Spec.Ok Tryz.prog 52 other) : Yard.Spec.Ok Tryz.prog 52 (specBy q20_p q20_q (q20_rr q20) other) :=
  specBy_ok ho (funK_sound TT mixed (q20_EOk R) (keep := false) rfl rfl rfl rfl 1 (q20_loops R)) fun (x : Pat.dens q20_p) (y : HPat.dens q20_q) k => q20_ok x.2.1 k
end Go.Proofs.YtmlkkgfenfdndaaGreatDoor
set_option maxRecDepth 100000
namespace Go.Proofs.YtmlkkgfenfdndaaGreatDoor
open Go Go.Yard
theorem pick01 {R : Type} (c n : Int) (hc : I64 c) (h0 : 0 < n) (hn : n ≤ 9223372036854775807) : ∃ r : Int, 0 ≤ r ∧ r < n ∧ ∀ k : Int → Option R, q82 c n k = k r := pick_raw c n hc h0 hn
theorem strip_ex : ∀ (b : Nat) (m : Int), m ≠ 0 → m.natAbs < b → ∃ (j : Nat) (u : Int), m = u * 10 ^ j ∧ Int.tmod u 10 ≠ 0
  | 0, m, _, h => by omega
  | b + 1, m, h0, hb => by
    by_cases h : Int.tmod m 10 = 0
    · have hd : m = Int.tdiv m 10 * 10 := by have := Int.tmod_add_mul_tdiv m 10; omega
      have hn : (Int.tdiv m 10).natAbs < m.natAbs := by rw [Int.natAbs_tdiv]; show m.natAbs / 10 < m.natAbs; omega
      obtain ⟨j, u, e, hu⟩ := strip_ex b (Int.tdiv m 10) (by omega) (by omega)
      refine ⟨j + 1, u, ?_, hu⟩
      rw [Int.pow_succ, ← Int.mul_assoc, ← e]
      exact hd
    · exact ⟨0, m, by simp, h⟩
theorem strip_one : ∀ (i j : Nat) (u v : Int), Int.tmod u 10 ≠ 0 → Int.tmod v 10 ≠ 0 → u * 10 ^ i = v * 10 ^ j → i = j ∧ u = v
  | 0, 0, u, v, _, _, h => ⟨rfl, by simpa using h⟩
  | 0, j + 1, u, v, hu, _, h => by
    exfalso
    apply hu
    have : u = (v * 10 ^ j) * 10 := by rw [Int.pow_succ, ← Int.mul_assoc] at h; simpa using h
    rw [this]
    exact Int.mul_tmod_left _ _
  | i + 1, 0, u, v, _, hv, h => by
    exfalso
    apply hv
    have : v = (u * 10 ^ i) * 10 := by rw [Int.pow_succ, ← Int.mul_assoc] at h; simpa using h.symm
    rw [this]
    exact Int.mul_tmod_left _ _
  | i + 1, j + 1, u, v, hu, hv, h => by
    have h2 : u * 10 ^ i = v * 10 ^ j := by
      rw [Int.pow_succ, Int.pow_succ, ← Int.mul_assoc, ← Int.mul_assoc] at h
      omega
    obtain ⟨h3, h4⟩ := strip_one i j u v hu hv h2
    exact ⟨by omega, h4⟩
theorem pow_pos10 (j : Nat) : (1 : Int) ≤ 10 ^ j := by
  induction j with
  | zero => simp
  | succ j ih => rw [Int.pow_succ]; omega
theorem abs_le_mul (u : Int) (j : Nat) : u.natAbs ≤ (u * 10 ^ j).natAbs := by
  rw [Int.natAbs_mul]
  have h := pow_pos10 j
  have : 1 ≤ ((10 : Int) ^ j).natAbs := by omega
  exact Nat.le_mul_of_pos_right _ this
theorem noughts_le (u : Int) (hu : u ≠ 0) : ∀ j : Nat, j ≤ (u * 10 ^ j).natAbs := by
  intro j
  rw [Int.natAbs_mul]
  have h1 : 1 ≤ u.natAbs := by omega
  have h2 : j ≤ ((10 : Int) ^ j).natAbs := by
    induction j with
    | zero => simp
    | succ j ih =>
      have := pow_pos10 j
      rw [Int.pow_succ, Int.natAbs_mul]
      show j + 1 ≤ ((10 : Int) ^ j).natAbs * 10
      omega
  calc j ≤ ((10 : Int) ^ j).natAbs := h2
    _ ≤ u.natAbs * ((10 : Int) ^ j).natAbs := Nat.le_mul_of_pos_left _ h1
theorem noughts_pow (u : Int) (hu : u ≠ 0) (j : Nat) : 2 ^ j ≤ (u * 10 ^ j).natAbs := by
  rw [Int.natAbs_mul]
  have h2 : ∀ j : Nat, 2 ^ j ≤ ((10 : Int) ^ j).natAbs := by
    intro j
    induction j with
    | zero => simp
    | succ j ih =>
      rw [Int.pow_succ, Int.natAbs_mul, Nat.pow_succ]
      show 2 ^ j * 2 ≤ ((10 : Int) ^ j).natAbs * 10
      omega
  exact Nat.le_trans (h2 j) (Nat.le_mul_of_pos_left _ (by omega))
theorem noughts_64 {u : Int} (hu : u ≠ 0) {j : Nat} (hb : I64 (u * 10 ^ j)) : j < 64 := by
  have h := noughts_pow u hu j
  unfold I64 at hb
  rcases Nat.lt_or_ge j 64 with h1 | h1
  · exact h1
  · have h2 : (2 : Nat) ^ 64 ≤ 2 ^ j := Nat.pow_le_pow_right (by omega) h1
    have h3 : (2 : Nat) ^ 64 = 18446744073709551616 := rfl
    omega
theorem make_loop {R : Type} (d : Dcm) (e0 : Int → Int → Dcm → Option R) : ∀ (j n : Nat) (u x : Int), j < n → Int.tmod u 10 ≠ 0 → I64 (u * 10 ^ j) → -9223372036854775808 ≤ x → x + j ≤ 4000000000000000000 →
    q65_4_0_L n (u * 10 ^ j) x d e0 = e0 u (x + j) d := by
  intro j
  induction j with
  | zero =>
    intro n u x hn hu hb h1 h2
    obtain ⟨m, rfl⟩ : ∃ m, n = m + 1 := ⟨n - 1, by omega⟩
    have e : q65_4_0_L (m + 1) (u * 10 ^ 0) x d e0 = q65_4_0_B (fun x0' x1' x2' => q65_4_0_L m x0' x1' x2' e0) (u * 10 ^ 0) x d e0 := rfl
    rw [e]
    unfold q65_4_0_B
    have e1 : u * 10 ^ 0 = u := by simp
    have e2 : (Int.tmod u 10 == 0) = false := by rw [beq_eq_false_iff_ne]; exact hu
    rw [e1, e2, cond_false]
    simp
  | succ j ih =>
    intro n u x hn hu hb h1 h2
    obtain ⟨m, rfl⟩ : ∃ m, n = m + 1 := ⟨n - 1, by omega⟩
    have e : q65_4_0_L (m + 1) (u * 10 ^ (j + 1)) x d e0 = q65_4_0_B (fun x0' x1' x2' => q65_4_0_L m x0' x1' x2' e0) (u * 10 ^ (j + 1)) x d e0 := rfl
    rw [e]
    unfold q65_4_0_B
    have ep : u * 10 ^ (j + 1) = u * 10 ^ j * 10 := by rw [Int.pow_succ, Int.mul_assoc]
    unfold I64 at hb
    rw [ep] at hb ⊢
    have e1 : (Int.tmod (u * 10 ^ j * 10) 10 == 0) = true := by rw [Int.mul_tmod_left]; rfl
    have e2 : Int.tdiv (u * 10 ^ j * 10) 10 = u * 10 ^ j := Int.mul_tdiv_cancel _ (by omega)
    rw [e1, cond_true, e2, wrap_id (n := u * 10 ^ j) (by omega) (by omega), wrap_id (n := x + 1) (by omega) (by omega)]
    show q65_4_0_L m (u * 10 ^ j) (x + 1) d e0 = _
    rw [ih m u (x + 1) (by omega) hu (by unfold I64; omega) (by omega) (by omega)]
    have : x + 1 + (j : Int) = x + ((j + 1 : Nat) : Int) := by omega
    rw [this]
theorem within_ok {R : Type} (a b c : Int) (k : Bool → Option R) : q52 a b c k = k (decide (a ≤ b) && decide (b ≤ c)) := by
  have e : q52 a b c k = q52_X a b c k := rfl
  rw [e]
  unfold q52_X
  by_cases h1 : a ≤ b
  · rw [dtrue h1]; first | rfl | simp
  · rw [dfalse h1]; first | rfl | simp
def mkD (u x : Int) : Dcm × Bool := if -1000000000000000 ≤ u ∧ u ≤ 1000000000000000 ∧ -9 ≤ x ∧ x ≤ 9 then (⟨u, x⟩, true) else (⟨0, 0⟩, false)
theorem make_ok {R : Type} (u : Int) (j : Nat) (x : Int) (hu : Int.tmod u 10 ≠ 0) (hb : I64 (u * 10 ^ j)) (h1 : -9223372036854775808 ≤ x) (h2 : x ≤ 1000000) (k : Dcm → Bool → Option R) :
    q65 (u * 10 ^ j) x k = k (mkD u (x + j)).1 (mkD u (x + j)).2 := by
  have e : q65 (u * 10 ^ j) x k = q65_X q52 q65_4_0_L (u * 10 ^ j) x k := rfl
  rw [e]
  unfold q65_X
  have hu0 : u ≠ 0 := by rintro rfl; exact hu rfl
  have ha := abs_le_mul u j
  have hn := noughts_le u hu0 j
  have h64 := noughts_64 hu0 hb
  have h0 : (u * 10 ^ j == 0) = false := by rw [beq_eq_false_iff_ne]; omega
  have hm : min x 1000000 = x := Int.min_eq_left h2
  unfold I64 at hb
  rw [h0, cond_false, hm, make_loop _ _ j _ u x (by omega) hu (by unfold I64; exact hb) h1 (by omega)]
  rw [within_ok]
  unfold mkD
  by_cases c1 : -1000000000000000 ≤ u ∧ u ≤ 1000000000000000
  · rw [dtrue c1.1, dtrue c1.2]
    simp only [Bool.and_self, Bool.not_true, cond_false]
    rw [within_ok]
    by_cases c2 : -9 ≤ x + (j : Int) ∧ x + (j : Int) ≤ 9
    · rw [dtrue c2.1, dtrue c2.2, if_pos ⟨c1.1, c1.2, c2.1, c2.2⟩]
      rfl
    · rw [if_neg (fun h => c2 h.2.2)]
      have : (decide (-9 ≤ x + (j : Int)) && decide (x + (j : Int) ≤ 9)) = false := by
        rw [Bool.and_eq_false_iff, decide_eq_false_iff_not, decide_eq_false_iff_not]; omega
      rw [this]
      rfl
  · rw [if_neg (fun h => c1 ⟨h.1, h.2.1⟩)]
    have : (decide (-1000000000000000 ≤ u) && decide (u ≤ 1000000000000000)) = false := by
      rw [Bool.and_eq_false_iff, decide_eq_false_iff_not, decide_eq_false_iff_not]; omega
    rw [this]
    rfl
theorem make_zero {R : Type} (x : Int) (k : Dcm → Bool → Option R) : q65 0 x k = k ⟨0, 0⟩ true := by
  have e : q65 0 x k = q65_X q52 q65_4_0_L 0 x k := rfl
  rw [e]
  rfl
theorem right_mk {R : Type} {u x : Int} (hu : Int.tmod u 10 ≠ 0) (h : -1000000000000000 ≤ u ∧ u ≤ 1000000000000000 ∧ -9 ≤ x ∧ x ≤ 9) (k : Bool → Option R) : q63 ⟨u, x⟩ k = k true := by
  have e : q63 ⟨u, x⟩ k = q63_X q52 ⟨u, x⟩ k := rfl
  rw [e]
  unfold q63_X
  have hu0 : u ≠ 0 := by rintro rfl; exact hu rfl
  have e1 : (u == 0) = false := by rw [beq_eq_false_iff_ne]; exact hu0
  have e2 : (Int.tmod u 10 != 0) = true := bne_iff_ne.2 hu
  simp only [e1, e2, cond_false, cond_true, within_ok]
  rw [dtrue h.1, dtrue h.2.1, dtrue h.2.2.1, dtrue h.2.2.2]
  rfl
end Go.Proofs.YtmlkkgfenfdndaaGreatDoor
set_option maxRecDepth 100000
namespace Go.Proofs.YtmlkkgfenfdndaaGreatDoor
open Go Go.Yard Go.Lib
def Fm (d : Dcm) : Prop := (d.mant = 0 ∧ d.exp = 0) ∨ (Int.tmod d.mant 10 ≠ 0 ∧ -1000000000000000 ≤ d.mant ∧ d.mant ≤ 1000000000000000 ∧ -9 ≤ d.exp ∧ d.exp ≤ 9)
theorem Fm.bounds {d : Dcm} (h : Fm d) : -1000000000000000 ≤ d.mant ∧ d.mant ≤ 1000000000000000 ∧ -9 ≤ d.exp ∧ d.exp ≤ 9 := by
  rcases h with h | h <;> omega
theorem Fm.nz {d : Dcm} (h : Fm d) (h0 : d.mant ≠ 0) : Int.tmod d.mant 10 ≠ 0 := by
  rcases h with h | h
  · exact (h0 h.1).elim
  · exact h.1
theorem Fm.zero {d : Dcm} (h : Fm d) (h0 : d.mant = 0) : d = ⟨0, 0⟩ := by
  rcases h with h | h
  · cases d; simp only at h; rw [h.1, h.2]
  · exact (h.1 (by rw [h0]; rfl)).elim
theorem Fm.mk0 : Fm ⟨0, 0⟩ := .inl ⟨rfl, rfl⟩
theorem tmod_neg {m : Int} (h : Int.tmod m 10 ≠ 0) : Int.tmod (-m) 10 ≠ 0 := by rw [Int.neg_tmod]; omega
theorem Fm.neg {d : Dcm} (h : Fm d) : Fm ⟨-d.mant, d.exp⟩ := by
  rcases h with h | h
  · exact .inl ⟨by simp only; omega, h.2⟩
  · exact .inr ⟨tmod_neg h.1, by simp only; omega, by simp only; omega, h.2.2.2⟩
theorem right_ok {R : Type} {d : Dcm} (h : Fm d) (k : Bool → Option R) : q63 d k = k true := by
  rcases h with h | h
  · have e : q63 d k = q63_X q52 d k := rfl
    rw [e]
    unfold q63_X
    rw [h.1, h.2]
    rfl
  · cases d; exact right_mk h.1 h.2 k
theorem fit_loop {R : Type} (x : Int) (d : Dcm) (e0 : Int → Int → Dcm → Option R) : ∀ (j n : Nat) (u : Int), j < n → Int.tmod u 10 ≠ 0 → I64 (u * 10 ^ j) →
    q85_3_0_L n (u * 10 ^ j) x d e0 = e0 u x d := by
  intro j
  induction j with
  | zero =>
    intro n u hn hu hb
    obtain ⟨m, rfl⟩ : ∃ m, n = m + 1 := ⟨n - 1, by omega⟩
    have e : q85_3_0_L (m + 1) (u * 10 ^ 0) x d e0 = q85_3_0_B (fun x0' x1' x2' => q85_3_0_L m x0' x1' x2' e0) (u * 10 ^ 0) x d e0 := rfl
    rw [e]
    unfold q85_3_0_B
    have e1 : u * 10 ^ 0 = u := by simp
    have e2 : (Int.tmod u 10 == 0) = false := by rw [beq_eq_false_iff_ne]; exact hu
    have e3 : (u != 0) = true := bne_iff_ne.2 (by rintro rfl; exact hu rfl)
    rw [e1, e3, cond_true, e2, cond_false]
  | succ j ih =>
    intro n u hn hu hb
    obtain ⟨m, rfl⟩ : ∃ m, n = m + 1 := ⟨n - 1, by omega⟩
    have e : q85_3_0_L (m + 1) (u * 10 ^ (j + 1)) x d e0 = q85_3_0_B (fun x0' x1' x2' => q85_3_0_L m x0' x1' x2' e0) (u * 10 ^ (j + 1)) x d e0 := rfl
    rw [e]
    unfold q85_3_0_B
    have ep : u * 10 ^ (j + 1) = u * 10 ^ j * 10 := by rw [Int.pow_succ, Int.mul_assoc]
    have hu0 : u ≠ 0 := by rintro rfl; exact hu rfl
    have hab := abs_le_mul u (j + 1)
    have e3 : (u * 10 ^ (j + 1) != 0) = true := bne_iff_ne.2 (by omega)
    unfold I64 at hb
    rw [e3, cond_true]
    rw [ep] at hb ⊢
    have e1 : (Int.tmod (u * 10 ^ j * 10) 10 == 0) = true := by rw [Int.mul_tmod_left]; rfl
    have e2 : Int.tdiv (u * 10 ^ j * 10) 10 = u * 10 ^ j := Int.mul_tdiv_cancel _ (by omega)
    rw [e1, cond_true, e2, wrap_id (n := u * 10 ^ j) (by omega) (by omega)]
    exact ih m u (by omega) hu (by unfold I64; omega)
theorem fit_ok {R : Type} (a b : Int) (ha : I64 a) (hb : I64 b) : ∃ d : Dcm, Fm d ∧ ∀ k : Dcm → Option R, q85 a b k = k d := by
  obtain ⟨m, m0, m1, hm⟩ := pick01 (R := R) a 2000000000000001 ha (by omega) (by omega)
  obtain ⟨x, x0, x1, hx⟩ := pick01 (R := R) b 19 hb (by omega) (by omega)
  have e : ∀ k : Dcm → Option R, q85 a b k = q85_X q82 q85_3_0_L a b k := fun _ => rfl
  by_cases h0 : m - 1000000000000000 = 0
  · refine ⟨⟨0, 0⟩, .mk0, fun k => ?_⟩
    rw [e]
    unfold q85_X
    rw [hm, hx, wrap_id (n := m - 1000000000000000) (by omega) (by omega), h0]
    rfl
  · obtain ⟨j, u, hu, hd⟩ := strip_ex ((m - 1000000000000000).natAbs + 1) _ h0 (by omega)
    have hab := abs_le_mul u j
    have hb64 : I64 (u * 10 ^ j) := by unfold I64; omega
    have h64 := noughts_64 (by rintro rfl; exact hd rfl) hb64
    refine ⟨⟨u, x - 9⟩, .inr ⟨hd, by simp only; omega, by simp only; omega, by simp only; omega, by simp only; omega⟩, fun k => ?_⟩
    rw [e]
    unfold q85_X
    rw [hm, hx, wrap_id (n := m - 1000000000000000) (by omega) (by omega), wrap_id (n := x - 9) (by omega) (by omega)]
    have key := fun (F : Nat) (hF : j < F) => fit_loop (R := R) (x - 9) ⟨0, 0⟩ (fun y9 y10 y11 => bif (y9 == 0) then (k (⟨y9, 0⟩ : Dcm)) else (k (⟨y9, y10⟩ : Dcm))) j F u hF hd hb64
    rw [← hu] at key
    rw [key _ (by omega)]
    have e0 : (u == 0) = false := by rw [beq_eq_false_iff_ne]; rintro rfl; exact hd rfl
    rw [e0]
    rfl
def Made (m x : Int) (r : Dcm × Bool) : Prop := (m = 0 ∧ r = (⟨0, 0⟩, true)) ∨ ∃ (u : Int) (j : Nat), m = u * 10 ^ j ∧ Int.tmod u 10 ≠ 0 ∧ r = mkD u (x + j)
theorem make_any {R : Type} (m x : Int) (hm : I64 m) (h1 : -4000000000000000000 ≤ x) (h2 : x ≤ 1000000) : ∃ r : Dcm × Bool, Made m x r ∧ ∀ k : Dcm → Bool → Option R, q65 m x k = k r.1 r.2 := by
  by_cases h0 : m = 0
  · subst h0
    exact ⟨_, .inl ⟨rfl, rfl⟩, fun k => make_zero x k⟩
  · obtain ⟨j, u, hu, hd⟩ := strip_ex (m.natAbs + 1) m h0 (by omega)
    exact ⟨_, .inr ⟨u, j, hu, hd, rfl⟩, fun k => by subst hu; exact make_ok u j x hd hm (by omega) h2 k⟩
def val (d : Dcm) : Int := d.mant * 10 ^ (d.exp + 9).toNat
theorem nDigits_low (u : Nat) (h : 0 < u) : 10 ^ (nDigits u - 1) ≤ u := by
  induction u using Nat.strongRecOn with
  | _ u ih =>
    by_cases h1 : u < 10
    · rw [nDigits_small h1]; exact h
    · rw [nDigits_big h1, Nat.add_sub_cancel]
      have h2 := ih (u / 10) (by omega) (by omega)
      have h3 := nDigits_pos (u / 10)
      have e : nDigits (u / 10) = (nDigits (u / 10) - 1) + 1 := by omega
      rw [e, Nat.pow_succ]
      omega
theorem digits16 {u : Nat} (h : u ≤ 1000000000000000) : nDigits u ≤ 16 := by
  rcases Nat.eq_zero_or_pos u with rfl | h0
  · rw [nDigits_small (by omega)]; omega
  · have h1 := nDigits_low u h0
    rcases Nat.lt_or_ge (nDigits u) 17 with h2 | h2
    · omega
    · have h3 : (10 : Nat) ^ 16 ≤ 10 ^ (nDigits u - 1) := Nat.pow_le_pow_right (by omega) (by omega)
      have e : (10 : Nat) ^ 16 = 10000000000000000 := rfl
      omega
theorem made_same {d : Dcm} (h : Fm d) (h0 : d.mant ≠ 0) {j : Nat} {x : Int} (hx : x + j = d.exp) {r : Dcm × Bool} (hr : Made (d.mant * 10 ^ j) x r) : r = (d, true) := by
  have hz := h.nz h0
  have hab := abs_le_mul d.mant j
  rcases hr with ⟨h1, _⟩ | ⟨u, i, e, hu, rfl⟩
  · omega
  · obtain ⟨rfl, rfl⟩ := strip_one i j u d.mant hu hz e.symm
    have b := h.bounds
    unfold mkD
    rw [if_pos (by omega), hx]
end Go.Proofs.YtmlkkgfenfdndaaGreatDoor
set_option maxRecDepth 100000
namespace Go.Proofs.YtmlkkgfenfdndaaGreatDoor
open Go Go.Yard
abbrev zs (s : Str) : List Int := s.map fun b => (b.toNat : Int)
theorem zs_app (s t : Str) : zs (s ++ t) = zs s ++ zs t := List.map_append
theorem zs_bytesN (s : Str) : bytesN s = zs s := rfl
theorem zs_len (s : Str) : (zs s).length = s.length := List.length_map _
theorem bstr_zs (s : Str) : bstr (zs s) = s := by
  unfold bstr zs
  rw [List.map_map]
  conv => rhs; rw [← List.map_id s]
  exact List.map_congr_left fun b _ => by simp
theorem zs_nat (n : Nat) (h : n < 256) : ((UInt8.ofNat n).toNat : Int) = n := by rw [u8_nat n h]
def Lim (s : Str) : Prop := s.length ≤ 100000000000
theorem wb {R : Type} (b : UInt8) (s : Str) (hl : Lim s) (k : List Int → Option R) : q25 (b.toNat : Int) (zs s) k = k (zs (s ++ [b])) := by
  show chk (decide (((zs s).length + 1) * 1 ≤ 140737488355328)) (k (zs s ++ [(b.toNat : Int)])) = _
  unfold Lim at hl
  rw [chk_pos (dtrue (by rw [zs_len]; omega)), zs_app]
  rfl
theorem ws {R : Type} (x : Str) (s : Str) (hx : x.length ≤ 100000000000) (hl : Lim s) (k : Int → List Int → Option R) : q21 x (zs s) k = k (x.length : Int) (zs (s ++ x)) := by
  show chk (decide (((zs s).length + (bytesN x).length) * 1 ≤ 140737488355328)) (k (x.length : Int) (zs s ++ bytesN x)) = _
  unfold Lim at hl
  rw [zs_bytesN, chk_pos (dtrue (by rw [zs_len, zs_len]; omega)), zs_app]
theorem or128 : ∀ x : Fin 64, IntKind.u8.wrap ((BitVec.ofInt IntKind.u8.bits 128 ||| BitVec.ofInt IntKind.u8.bits (x.val : Int)).toNat : Int) = ((128 + x.val : Nat) : Int) := by decide +kernel
theorem or192 : ∀ x : Fin 32, IntKind.u8.wrap ((BitVec.ofInt IntKind.u8.bits 192 ||| BitVec.ofInt IntKind.u8.bits (IntKind.u8.wrap (x.val : Int))).toNat : Int) = ((192 + x.val : Nat) : Int) := by decide +kernel
theorem or224 : ∀ x : Fin 16, IntKind.u8.wrap ((BitVec.ofInt IntKind.u8.bits 224 ||| BitVec.ofInt IntKind.u8.bits (IntKind.u8.wrap (x.val : Int))).toNat : Int) = ((224 + x.val : Nat) : Int) := by decide +kernel
theorem or240 : ∀ x : Fin 8, IntKind.u8.wrap ((BitVec.ofInt IntKind.u8.bits 240 ||| BitVec.ofInt IntKind.u8.bits (IntKind.u8.wrap (x.val : Int))).toNat : Int) = ((240 + x.val : Nat) : Int) := by decide +kernel
theorem and63 : ∀ x : Fin 256, IntKind.u8.wrap ((BitVec.ofInt IntKind.u8.bits (x.val : Int) &&& BitVec.ofInt IntKind.u8.bits 63).toNat : Int) = ((x.val % 64 : Nat) : Int) := by decide +kernel
theorem wrap8 (n : Nat) : IntKind.u8.wrap (n : Int) = ((n % 256 : Nat) : Int) := by
  simp only [IntKind.wrap, IntKind.bits, IntKind.signed]
  simp
theorem wrap32u {n : Nat} (h : n < 1114112) : IntKind.u32.wrap (n : Int) = (n : Int) := by
  simp only [IntKind.wrap, IntKind.bits, IntKind.signed]
  simp
  omega
theorem shr (c n : Nat) (h : n ≤ 32) : Int.fdiv (c : Int) (2 ^ (min n IntKind.i32.bits)) = ((c / 2 ^ n : Nat) : Int) := by
  have e : min n IntKind.i32.bits = n := Nat.min_eq_left h
  rw [e, Int.fdiv_eq_ediv_of_nonneg _ (by exact Int.le_of_lt (Int.pow_pos (by omega)))]
  rw [Int.natCast_ediv]
  congr 1
theorem cont (c : Nat) : IntKind.u8.wrap ((BitVec.ofInt IntKind.u8.bits 128 ||| BitVec.ofInt IntKind.u8.bits (IntKind.u8.wrap ((BitVec.ofInt IntKind.u8.bits (IntKind.u8.wrap (c : Int)) &&& BitVec.ofInt IntKind.u8.bits 63).toNat : Int))).toNat : Int) = ((128 + c % 64 : Nat) : Int) := by
  have h1 := and63 ⟨c % 256, Nat.mod_lt _ (by omega)⟩
  simp only at h1
  rw [wrap8 c, h1, show c % 256 % 64 = c % 64 by omega]
  exact or128 ⟨c % 64, Nat.mod_lt _ (by omega)⟩
theorem zs_enc1 (n : Nat) (h : n < 256) : zs [UInt8.ofNat n] = [(n : Int)] := by simp only [zs, List.map_cons, List.map_nil, zs_nat n h]
theorem ar {R : Type} {c : Nat} (hv : vr c) (s : Str) (hl : Lim s) (k : List Int → Option R) : q29 (zs s) (c : Int) k = k (zs (s ++ enc c)) := by
  have hlt := vr_lt hv
  unfold Lim at hl
  show q29_X q18 (zs s) (c : Int) k = _
  unfold q29_X
  rw [wrap32u hlt, zs_app]
  rcases enc_cases hv with ⟨h1, e⟩ | ⟨h0, h1, e⟩ | ⟨h0, h1, e⟩ | ⟨h0, e⟩
  · rw [dtrue (show (c : Int) ≤ 127 by omega), cond_true, chk_pos (dtrue (by rw [zs_len]; omega)), e, zs_enc1 c (by omega), wrap8, Nat.mod_eq_of_lt (by omega)]
  all_goals
    rw [dfalse (show ¬ (c : Int) ≤ 127 by omega), cond_false]
    show q18_X (zs s) (c : Int) _ = _
    unfold q18_X
    rw [wrap32u hlt, e]
    simp only [cont, shr _ 6 (by omega), shr _ 12 (by omega), shr _ 18 (by omega), zs_len]
  · rw [dtrue (show (c : Int) ≤ 2047 by omega), cond_true, chk_pos (dtrue (by omega))]
    have := or192 ⟨c / 64, by omega⟩
    simp only at this
    rw [show c / 2 ^ 6 = c / 64 from rfl, this]
    simp only [zs, List.map_cons, List.map_nil, zs_nat (192 + c / 64) (by omega), zs_nat (128 + c % 64) (by omega)]
  · rw [dfalse (show ¬ (c : Int) ≤ 2047 by omega), cond_false]
    unfold vr at hv
    by_cases h2 : c < 55296
    · rw [dtrue (show (c : Int) < 55296 by omega), cond_true, cond_true, chk_pos (dtrue (by omega))]
      have := or224 ⟨c / 4096, by omega⟩
      simp only at this
      rw [show c / 2 ^ 12 = c / 4096 from rfl, this]
      simp only [zs, List.map_cons, List.map_nil, zs_nat (224 + c / 4096) (by omega), zs_nat (128 + c % 64) (by omega), zs_nat (128 + c / 64 % 64) (by omega)]
    rw [dfalse (show ¬ (c : Int) < 55296 by omega), cond_false, dtrue (show (57343 : Int) < (c : Int) by omega), cond_true, dtrue (show (c : Int) ≤ 65535 by omega), cond_true, chk_pos (dtrue (by omega))]
    have := or224 ⟨c / 4096, by omega⟩
    simp only at this
    rw [show c / 2 ^ 12 = c / 4096 from rfl, this]
    simp only [zs, List.map_cons, List.map_nil, zs_nat (224 + c / 4096) (by omega), zs_nat (128 + c % 64) (by omega), zs_nat (128 + c / 64 % 64) (by omega)]
  · rw [dfalse (show ¬ (c : Int) ≤ 2047 by omega), cond_false]
    rw [dfalse (show ¬ (c : Int) < 55296 by omega), cond_false, dtrue (show (57343 : Int) < (c : Int) by omega), cond_true, dfalse (show ¬ (c : Int) ≤ 65535 by omega), cond_false,
      dtrue (show (c : Int) > 65535 by omega), cond_true, dtrue (show (c : Int) ≤ 1114111 by omega), cond_true, chk_pos (dtrue (by omega))]
    have := or240 ⟨c / 262144, by omega⟩
    simp only at this
    rw [show c / 2 ^ 18 = c / 262144 from rfl, this]
    simp only [zs, List.map_cons, List.map_nil, zs_nat (240 + c / 262144) (by omega), zs_nat (128 + c % 64) (by omega), zs_nat (128 + c / 64 % 64) (by omega), zs_nat (128 + c / 4096 % 64) (by omega)]
theorem wr {R : Type} {c : Nat} (hv : vr c) (s : Str) (hl : Lim s) (k : Int → List Int → Option R) : ∃ n : Int, q24 (c : Int) (zs s) k = k n (zs (s ++ enc c)) := by
  refine ⟨IntKind.i64.wrap (((zs (s ++ enc c)).length : Int) - ((zs s).length : Int)), ?_⟩
  show q24_X q29 (c : Int) (zs s) k = _
  unfold q24_X
  rw [ar hv s hl]
end Go.Proofs.YtmlkkgfenfdndaaGreatDoor
/-
  Functions of the program as pure Lean functions, and the ties; printed by wip/tools/emit.py.
-/
set_option maxRecDepth 100000
namespace Go.Proofs.YtmlkkgfenfdndaaGreatDoor
open Go Go.Yard
/-! ### humpyard/decimal.Print -/
abbrev q64_ty (R : Type) : Type := Dcm → (Str → Option R) → Option R
abbrev q64_p : List Pat := [.agg [.int .i64, .int .i64]]
abbrev q64_q : List HPat := []
noncomputable def q64_rr {R : Type} (fn : q64_ty R) : Pat.dens q64_p → HPat.dens q64_q → (V → Heap → Option R) → Option R := fun x y k => fn (⟨x.1.1, x.1.2.1⟩ : Dcm) (fun q0 => k (.str q0) [])
noncomputable def q64_E (R : Type) (q63 : q63_ty R) (q26 : q26_ty R) (q21 : q21_ty R) (q20 : q20_ty R) : Env R := fun i => match i with
  | 65 => some (true, (specBy q63_p q63_q (q63_rr q63) specNo))
  | 50 => some (false, (specBy q26_p q26_q (q26_rr q26) specNo))
  | 52 => some (false, (specBy q20_p q20_q (q20_rr q20) (specBy q21_p q21_q (q21_rr q21) specNo)))
  | 39 => some (false, (bstr_S R))
  | 66 => some (true, (itoa_S R))
  | 67 => some (true, (rep_S R))
  | _ => none
theorem q64_EOk (R : Type) : EOk Tryz.prog (q64_E R q63 q26 q21 q20) := by
  intro i b sp h
  unfold q64_E at h
  split at h
  · cases h; exact ⟨(q63_S_ok R _ (specNo_ok _)), fun h => nomatch h⟩
  · cases h; exact ⟨(q26_S_ok R _ (specNo_ok _)), fun _ h => nomatch h⟩
  · cases h; exact ⟨(q20_S_ok R _ (q21_S_ok R _ (specNo_ok _))), fun _ h => nomatch h⟩
  · cases h; exact ⟨(bstr_is), fun _ _ => bstr_soft⟩
  · cases h; exact ⟨(itoa_ok), fun h => nomatch h⟩
  · cases h; exact ⟨(rep_ok), fun h => nomatch h⟩
  · cases h
noncomputable def q64_T (R : Type) : Nat → Option (Hint × LSpec R) := fun i => match i with
  | _ => none
noncomputable def q64_X {R : Type} (q63 : q63_ty R) (q26 : q26_ty R) (q21 : q21_ty R) (q20 : q20_ty R) (x1 : Dcm) (k0 : Str → Option R) : Option R :=
  q63 x1 (fun y2 => bif (!y2) then (k0 ([] : Str)) else (bif (decide (x1.mant < (0 : Int))) then (q26 45 (fun y3 => bif (decide (x1.exp ≥ (0 : Int))) then (chk (decide (0 ≤ x1.exp) && decide ((([48] : Str).length : Int) * x1.exp ≤ 140737488355328)) (chk (decide ((itoaS (max x1.mant (IntKind.i64.wrap (0 - x1.mant)))).length + (repS ([48] : Str) x1.exp).length ≤ 9223372036854775807)) (q21 ((itoaS (max x1.mant (IntKind.i64.wrap (0 - x1.mant)))) ++ (repS ([48] : Str) x1.exp)) y3 (fun y4 y5 => k0 (bstr y5))))) else (chk (decide (0 ≤ (max 0 (IntKind.i64.wrap ((IntKind.i64.wrap (1 - x1.exp)) - ((itoaS (max x1.mant (IntKind.i64.wrap (0 - x1.mant)))).length : Int))))) && decide ((([48] : Str).length : Int) * (max 0 (IntKind.i64.wrap ((IntKind.i64.wrap (1 - x1.exp)) - ((itoaS (max x1.mant (IntKind.i64.wrap (0 - x1.mant)))).length : Int)))) ≤ 140737488355328)) (chk (decide ((repS ([48] : Str) (max 0 (IntKind.i64.wrap ((IntKind.i64.wrap (1 - x1.exp)) - ((itoaS (max x1.mant (IntKind.i64.wrap (0 - x1.mant)))).length : Int))))).length + (itoaS (max x1.mant (IntKind.i64.wrap (0 - x1.mant)))).length ≤ 9223372036854775807)) (chk (decide ((0 : Int) ≤ (IntKind.i64.wrap ((((repS ([48] : Str) (max 0 (IntKind.i64.wrap ((IntKind.i64.wrap (1 - x1.exp)) - ((itoaS (max x1.mant (IntKind.i64.wrap (0 - x1.mant)))).length : Int))))) ++ (itoaS (max x1.mant (IntKind.i64.wrap (0 - x1.mant))))).length : Int) + x1.exp))) && decide ((IntKind.i64.wrap ((((repS ([48] : Str) (max 0 (IntKind.i64.wrap ((IntKind.i64.wrap (1 - x1.exp)) - ((itoaS (max x1.mant (IntKind.i64.wrap (0 - x1.mant)))).length : Int))))) ++ (itoaS (max x1.mant (IntKind.i64.wrap (0 - x1.mant))))).length : Int) + x1.exp)) ≤ ((repS ([48] : Str) (max 0 (IntKind.i64.wrap ((IntKind.i64.wrap (1 - x1.exp)) - ((itoaS (max x1.mant (IntKind.i64.wrap (0 - x1.mant)))).length : Int))))) ++ (itoaS (max x1.mant (IntKind.i64.wrap (0 - x1.mant))))).length)) (chk (decide ((0 : Int) ≤ (IntKind.i64.wrap ((((repS ([48] : Str) (max 0 (IntKind.i64.wrap ((IntKind.i64.wrap (1 - x1.exp)) - ((itoaS (max x1.mant (IntKind.i64.wrap (0 - x1.mant)))).length : Int))))) ++ (itoaS (max x1.mant (IntKind.i64.wrap (0 - x1.mant))))).length : Int) + x1.exp)))) (chk (decide (((((repS ([48] : Str) (max 0 (IntKind.i64.wrap ((IntKind.i64.wrap (1 - x1.exp)) - ((itoaS (max x1.mant (IntKind.i64.wrap (0 - x1.mant)))).length : Int))))) ++ (itoaS (max x1.mant (IntKind.i64.wrap (0 - x1.mant))))).drop 0).take ((IntKind.i64.wrap ((((repS ([48] : Str) (max 0 (IntKind.i64.wrap ((IntKind.i64.wrap (1 - x1.exp)) - ((itoaS (max x1.mant (IntKind.i64.wrap (0 - x1.mant)))).length : Int))))) ++ (itoaS (max x1.mant (IntKind.i64.wrap (0 - x1.mant))))).length : Int) + x1.exp)).toNat - 0)).length + 1 ≤ 9223372036854775807)) (chk (decide ((0 : Int) ≤ (((repS ([48] : Str) (max 0 (IntKind.i64.wrap ((IntKind.i64.wrap (1 - x1.exp)) - ((itoaS (max x1.mant (IntKind.i64.wrap (0 - x1.mant)))).length : Int))))) ++ (itoaS (max x1.mant (IntKind.i64.wrap (0 - x1.mant))))).length : Int)) && decide ((((repS ([48] : Str) (max 0 (IntKind.i64.wrap ((IntKind.i64.wrap (1 - x1.exp)) - ((itoaS (max x1.mant (IntKind.i64.wrap (0 - x1.mant)))).length : Int))))) ++ (itoaS (max x1.mant (IntKind.i64.wrap (0 - x1.mant))))).length : Int) ≤ ((repS ([48] : Str) (max 0 (IntKind.i64.wrap ((IntKind.i64.wrap (1 - x1.exp)) - ((itoaS (max x1.mant (IntKind.i64.wrap (0 - x1.mant)))).length : Int))))) ++ (itoaS (max x1.mant (IntKind.i64.wrap (0 - x1.mant))))).length)) (chk (decide ((0 : Int) ≤ (IntKind.i64.wrap ((((repS ([48] : Str) (max 0 (IntKind.i64.wrap ((IntKind.i64.wrap (1 - x1.exp)) - ((itoaS (max x1.mant (IntKind.i64.wrap (0 - x1.mant)))).length : Int))))) ++ (itoaS (max x1.mant (IntKind.i64.wrap (0 - x1.mant))))).length : Int) + x1.exp))) && decide ((IntKind.i64.wrap ((((repS ([48] : Str) (max 0 (IntKind.i64.wrap ((IntKind.i64.wrap (1 - x1.exp)) - ((itoaS (max x1.mant (IntKind.i64.wrap (0 - x1.mant)))).length : Int))))) ++ (itoaS (max x1.mant (IntKind.i64.wrap (0 - x1.mant))))).length : Int) + x1.exp)) ≤ (((repS ([48] : Str) (max 0 (IntKind.i64.wrap ((IntKind.i64.wrap (1 - x1.exp)) - ((itoaS (max x1.mant (IntKind.i64.wrap (0 - x1.mant)))).length : Int))))) ++ (itoaS (max x1.mant (IntKind.i64.wrap (0 - x1.mant))))).length : Int))) (chk (decide ((((((repS ([48] : Str) (max 0 (IntKind.i64.wrap ((IntKind.i64.wrap (1 - x1.exp)) - ((itoaS (max x1.mant (IntKind.i64.wrap (0 - x1.mant)))).length : Int))))) ++ (itoaS (max x1.mant (IntKind.i64.wrap (0 - x1.mant))))).drop 0).take ((IntKind.i64.wrap ((((repS ([48] : Str) (max 0 (IntKind.i64.wrap ((IntKind.i64.wrap (1 - x1.exp)) - ((itoaS (max x1.mant (IntKind.i64.wrap (0 - x1.mant)))).length : Int))))) ++ (itoaS (max x1.mant (IntKind.i64.wrap (0 - x1.mant))))).length : Int) + x1.exp)).toNat - 0)) ++ ([46] : Str)).length + ((((repS ([48] : Str) (max 0 (IntKind.i64.wrap ((IntKind.i64.wrap (1 - x1.exp)) - ((itoaS (max x1.mant (IntKind.i64.wrap (0 - x1.mant)))).length : Int))))) ++ (itoaS (max x1.mant (IntKind.i64.wrap (0 - x1.mant))))).drop (IntKind.i64.wrap ((((repS ([48] : Str) (max 0 (IntKind.i64.wrap ((IntKind.i64.wrap (1 - x1.exp)) - ((itoaS (max x1.mant (IntKind.i64.wrap (0 - x1.mant)))).length : Int))))) ++ (itoaS (max x1.mant (IntKind.i64.wrap (0 - x1.mant))))).length : Int) + x1.exp)).toNat).take ((((repS ([48] : Str) (max 0 (IntKind.i64.wrap ((IntKind.i64.wrap (1 - x1.exp)) - ((itoaS (max x1.mant (IntKind.i64.wrap (0 - x1.mant)))).length : Int))))) ++ (itoaS (max x1.mant (IntKind.i64.wrap (0 - x1.mant))))).length : Int).toNat - (IntKind.i64.wrap ((((repS ([48] : Str) (max 0 (IntKind.i64.wrap ((IntKind.i64.wrap (1 - x1.exp)) - ((itoaS (max x1.mant (IntKind.i64.wrap (0 - x1.mant)))).length : Int))))) ++ (itoaS (max x1.mant (IntKind.i64.wrap (0 - x1.mant))))).length : Int) + x1.exp)).toNat)).length ≤ 9223372036854775807)) (q21 ((((((repS ([48] : Str) (max 0 (IntKind.i64.wrap ((IntKind.i64.wrap (1 - x1.exp)) - ((itoaS (max x1.mant (IntKind.i64.wrap (0 - x1.mant)))).length : Int))))) ++ (itoaS (max x1.mant (IntKind.i64.wrap (0 - x1.mant))))).drop 0).take ((IntKind.i64.wrap ((((repS ([48] : Str) (max 0 (IntKind.i64.wrap ((IntKind.i64.wrap (1 - x1.exp)) - ((itoaS (max x1.mant (IntKind.i64.wrap (0 - x1.mant)))).length : Int))))) ++ (itoaS (max x1.mant (IntKind.i64.wrap (0 - x1.mant))))).length : Int) + x1.exp)).toNat - 0)) ++ ([46] : Str)) ++ ((((repS ([48] : Str) (max 0 (IntKind.i64.wrap ((IntKind.i64.wrap (1 - x1.exp)) - ((itoaS (max x1.mant (IntKind.i64.wrap (0 - x1.mant)))).length : Int))))) ++ (itoaS (max x1.mant (IntKind.i64.wrap (0 - x1.mant))))).drop (IntKind.i64.wrap ((((repS ([48] : Str) (max 0 (IntKind.i64.wrap ((IntKind.i64.wrap (1 - x1.exp)) - ((itoaS (max x1.mant (IntKind.i64.wrap (0 - x1.mant)))).length : Int))))) ++ (itoaS (max x1.mant (IntKind.i64.wrap (0 - x1.mant))))).length : Int) + x1.exp)).toNat).take ((((repS ([48] : Str) (max 0 (IntKind.i64.wrap ((IntKind.i64.wrap (1 - x1.exp)) - ((itoaS (max x1.mant (IntKind.i64.wrap (0 - x1.mant)))).length : Int))))) ++ (itoaS (max x1.mant (IntKind.i64.wrap (0 - x1.mant))))).length : Int).toNat - (IntKind.i64.wrap ((((repS ([48] : Str) (max 0 (IntKind.i64.wrap ((IntKind.i64.wrap (1 - x1.exp)) - ((itoaS (max x1.mant (IntKind.i64.wrap (0 - x1.mant)))).length : Int))))) ++ (itoaS (max x1.mant (IntKind.i64.wrap (0 - x1.mant))))).length : Int) + x1.exp)).toNat))) y3 (fun y6 y7 => k0 (bstr y7))))))))))))) else (bif (decide (x1.exp ≥ (0 : Int))) then (chk (decide (0 ≤ x1.exp) && decide ((([48] : Str).length : Int) * x1.exp ≤ 140737488355328)) (chk (decide ((itoaS (max x1.mant (IntKind.i64.wrap (0 - x1.mant)))).length + (repS ([48] : Str) x1.exp).length ≤ 9223372036854775807)) (q20 ((itoaS (max x1.mant (IntKind.i64.wrap (0 - x1.mant)))) ++ (repS ([48] : Str) x1.exp)) (fun y8 y9 => k0 (bstr y9))))) else (chk (decide (0 ≤ (max 0 (IntKind.i64.wrap ((IntKind.i64.wrap (1 - x1.exp)) - ((itoaS (max x1.mant (IntKind.i64.wrap (0 - x1.mant)))).length : Int))))) && decide ((([48] : Str).length : Int) * (max 0 (IntKind.i64.wrap ((IntKind.i64.wrap (1 - x1.exp)) - ((itoaS (max x1.mant (IntKind.i64.wrap (0 - x1.mant)))).length : Int)))) ≤ 140737488355328)) (chk (decide ((repS ([48] : Str) (max 0 (IntKind.i64.wrap ((IntKind.i64.wrap (1 - x1.exp)) - ((itoaS (max x1.mant (IntKind.i64.wrap (0 - x1.mant)))).length : Int))))).length + (itoaS (max x1.mant (IntKind.i64.wrap (0 - x1.mant)))).length ≤ 9223372036854775807)) (chk (decide ((0 : Int) ≤ (IntKind.i64.wrap ((((repS ([48] : Str) (max 0 (IntKind.i64.wrap ((IntKind.i64.wrap (1 - x1.exp)) - ((itoaS (max x1.mant (IntKind.i64.wrap (0 - x1.mant)))).length : Int))))) ++ (itoaS (max x1.mant (IntKind.i64.wrap (0 - x1.mant))))).length : Int) + x1.exp))) && decide ((IntKind.i64.wrap ((((repS ([48] : Str) (max 0 (IntKind.i64.wrap ((IntKind.i64.wrap (1 - x1.exp)) - ((itoaS (max x1.mant (IntKind.i64.wrap (0 - x1.mant)))).length : Int))))) ++ (itoaS (max x1.mant (IntKind.i64.wrap (0 - x1.mant))))).length : Int) + x1.exp)) ≤ ((repS ([48] : Str) (max 0 (IntKind.i64.wrap ((IntKind.i64.wrap (1 - x1.exp)) - ((itoaS (max x1.mant (IntKind.i64.wrap (0 - x1.mant)))).length : Int))))) ++ (itoaS (max x1.mant (IntKind.i64.wrap (0 - x1.mant))))).length)) (chk (decide ((0 : Int) ≤ (IntKind.i64.wrap ((((repS ([48] : Str) (max 0 (IntKind.i64.wrap ((IntKind.i64.wrap (1 - x1.exp)) - ((itoaS (max x1.mant (IntKind.i64.wrap (0 - x1.mant)))).length : Int))))) ++ (itoaS (max x1.mant (IntKind.i64.wrap (0 - x1.mant))))).length : Int) + x1.exp)))) (chk (decide (((((repS ([48] : Str) (max 0 (IntKind.i64.wrap ((IntKind.i64.wrap (1 - x1.exp)) - ((itoaS (max x1.mant (IntKind.i64.wrap (0 - x1.mant)))).length : Int))))) ++ (itoaS (max x1.mant (IntKind.i64.wrap (0 - x1.mant))))).drop 0).take ((IntKind.i64.wrap ((((repS ([48] : Str) (max 0 (IntKind.i64.wrap ((IntKind.i64.wrap (1 - x1.exp)) - ((itoaS (max x1.mant (IntKind.i64.wrap (0 - x1.mant)))).length : Int))))) ++ (itoaS (max x1.mant (IntKind.i64.wrap (0 - x1.mant))))).length : Int) + x1.exp)).toNat - 0)).length + 1 ≤ 9223372036854775807)) (chk (decide ((0 : Int) ≤ (((repS ([48] : Str) (max 0 (IntKind.i64.wrap ((IntKind.i64.wrap (1 - x1.exp)) - ((itoaS (max x1.mant (IntKind.i64.wrap (0 - x1.mant)))).length : Int))))) ++ (itoaS (max x1.mant (IntKind.i64.wrap (0 - x1.mant))))).length : Int)) && decide ((((repS ([48] : Str) (max 0 (IntKind.i64.wrap ((IntKind.i64.wrap (1 - x1.exp)) - ((itoaS (max x1.mant (IntKind.i64.wrap (0 - x1.mant)))).length : Int))))) ++ (itoaS (max x1.mant (IntKind.i64.wrap (0 - x1.mant))))).length : Int) ≤ ((repS ([48] : Str) (max 0 (IntKind.i64.wrap ((IntKind.i64.wrap (1 - x1.exp)) - ((itoaS (max x1.mant (IntKind.i64.wrap (0 - x1.mant)))).length : Int))))) ++ (itoaS (max x1.mant (IntKind.i64.wrap (0 - x1.mant))))).length)) (chk (decide ((0 : Int) ≤ (IntKind.i64.wrap ((((repS ([48] : Str) (max 0 (IntKind.i64.wrap ((IntKind.i64.wrap (1 - x1.exp)) - ((itoaS (max x1.mant (IntKind.i64.wrap (0 - x1.mant)))).length : Int))))) ++ (itoaS (max x1.mant (IntKind.i64.wrap (0 - x1.mant))))).length : Int) + x1.exp))) && decide ((IntKind.i64.wrap ((((repS ([48] : Str) (max 0 (IntKind.i64.wrap ((IntKind.i64.wrap (1 - x1.exp)) - ((itoaS (max x1.mant (IntKind.i64.wrap (0 - x1.mant)))).length : Int))))) ++ (itoaS (max x1.mant (IntKind.i64.wrap (0 - x1.mant))))).length : Int) + x1.exp)) ≤ (((repS ([48] : Str) (max 0 (IntKind.i64.wrap ((IntKind.i64.wrap (1 - x1.exp)) - ((itoaS (max x1.mant (IntKind.i64.wrap (0 - x1.mant)))).length : Int))))) ++ (itoaS (max x1.mant (IntKind.i64.wrap (0 - x1.mant))))).length : Int))) (chk (decide ((((((repS ([48] : Str) (max 0 (IntKind.i64.wrap ((IntKind.i64.wrap (1 - x1.exp)) - ((itoaS (max x1.mant (IntKind.i64.wrap (0 - x1.mant)))).length : Int))))) ++ (itoaS (max x1.mant (IntKind.i64.wrap (0 - x1.mant))))).drop 0).take ((IntKind.i64.wrap ((((repS ([48] : Str) (max 0 (IntKind.i64.wrap ((IntKind.i64.wrap (1 - x1.exp)) - ((itoaS (max x1.mant (IntKind.i64.wrap (0 - x1.mant)))).length : Int))))) ++ (itoaS (max x1.mant (IntKind.i64.wrap (0 - x1.mant))))).length : Int) + x1.exp)).toNat - 0)) ++ ([46] : Str)).length + ((((repS ([48] : Str) (max 0 (IntKind.i64.wrap ((IntKind.i64.wrap (1 - x1.exp)) - ((itoaS (max x1.mant (IntKind.i64.wrap (0 - x1.mant)))).length : Int))))) ++ (itoaS (max x1.mant (IntKind.i64.wrap (0 - x1.mant))))).drop (IntKind.i64.wrap ((((repS ([48] : Str) (max 0 (IntKind.i64.wrap ((IntKind.i64.wrap (1 - x1.exp)) - ((itoaS (max x1.mant (IntKind.i64.wrap (0 - x1.mant)))).length : Int))))) ++ (itoaS (max x1.mant (IntKind.i64.wrap (0 - x1.mant))))).length : Int) + x1.exp)).toNat).take ((((repS ([48] : Str) (max 0 (IntKind.i64.wrap ((IntKind.i64.wrap (1 - x1.exp)) - ((itoaS (max x1.mant (IntKind.i64.wrap (0 - x1.mant)))).length : Int))))) ++ (itoaS (max x1.mant (IntKind.i64.wrap (0 - x1.mant))))).length : Int).toNat - (IntKind.i64.wrap ((((repS ([48] : Str) (max 0 (IntKind.i64.wrap ((IntKind.i64.wrap (1 - x1.exp)) - ((itoaS (max x1.mant (IntKind.i64.wrap (0 - x1.mant)))).length : Int))))) ++ (itoaS (max x1.mant (IntKind.i64.wrap (0 - x1.mant))))).length : Int) + x1.exp)).toNat)).length ≤ 9223372036854775807)) (q20 ((((((repS ([48] : Str) (max 0 (IntKind.i64.wrap ((IntKind.i64.wrap (1 - x1.exp)) - ((itoaS (max x1.mant (IntKind.i64.wrap (0 - x1.mant)))).length : Int))))) ++ (itoaS (max x1.mant (IntKind.i64.wrap (0 - x1.mant))))).drop 0).take ((IntKind.i64.wrap ((((repS ([48] : Str) (max 0 (IntKind.i64.wrap ((IntKind.i64.wrap (1 - x1.exp)) - ((itoaS (max x1.mant (IntKind.i64.wrap (0 - x1.mant)))).length : Int))))) ++ (itoaS (max x1.mant (IntKind.i64.wrap (0 - x1.mant))))).length : Int) + x1.exp)).toNat - 0)) ++ ([46] : Str)) ++ ((((repS ([48] : Str) (max 0 (IntKind.i64.wrap ((IntKind.i64.wrap (1 - x1.exp)) - ((itoaS (max x1.mant (IntKind.i64.wrap (0 - x1.mant)))).length : Int))))) ++ (itoaS (max x1.mant (IntKind.i64.wrap (0 - x1.mant))))).drop (IntKind.i64.wrap ((((repS ([48] : Str) (max 0 (IntKind.i64.wrap ((IntKind.i64.wrap (1 - x1.exp)) - ((itoaS (max x1.mant (IntKind.i64.wrap (0 - x1.mant)))).length : Int))))) ++ (itoaS (max x1.mant (IntKind.i64.wrap (0 - x1.mant))))).length : Int) + x1.exp)).toNat).take ((((repS ([48] : Str) (max 0 (IntKind.i64.wrap ((IntKind.i64.wrap (1 - x1.exp)) - ((itoaS (max x1.mant (IntKind.i64.wrap (0 - x1.mant)))).length : Int))))) ++ (itoaS (max x1.mant (IntKind.i64.wrap (0 - x1.mant))))).length : Int).toNat - (IntKind.i64.wrap ((((repS ([48] : Str) (max 0 (IntKind.i64.wrap ((IntKind.i64.wrap (1 - x1.exp)) - ((itoaS (max x1.mant (IntKind.i64.wrap (0 - x1.mant)))).length : Int))))) ++ (itoaS (max x1.mant (IntKind.i64.wrap (0 - x1.mant))))).length : Int) + x1.exp)).toNat))) (fun y10 y11 => k0 (bstr y11))))))))))))))
noncomputable def q64 {R : Type} : q64_ty R := fun x1 k0 => q64_X q63 q26 q21 q20 x1 k0
theorem q64_ok {R : Type} (q63 : q63_ty R) (q26 : q26_ty R) (q21 : q21_ty R) (q20 : q20_ty R) (x1 : Dcm) (k : V → Heap → Option R) : funK tt (q64_E R q63 q26 q21 q20) (q64_T R) false Tryz.f46 (codeOf Tryz.f46) [.agg [.int .i64 x1.mant, .int .i64 x1.exp]] [] k =
    q64_X q63 q26 q21 q20 x1 (fun q0 => k (.str q0) []) := by kernel_rfl
theorem q64_loops (R : Type) : ∀ a ∈ loopsOf (codeOf Tryz.f46), LoopOk tt (q64_E R q63 q26 q21 q20) (q64_T R) 0 a := by
  refine loops_ok 0 (by kernel_rfl) fun i hi => ?_
  omega
theorem q64_S_ok (R : Type) (other : Yard.Spec R) (ho : Yard.Spec.Ok Tryz.prog 46 other) : Yard.Spec.Ok Tryz.prog 46 (specBy q64_p q64_q (q64_rr q64) other) :=
  specBy_ok ho (funK_sound TT mixed (q64_EOk R) (keep := false) rfl rfl rfl rfl 0 (q64_loops R)) fun (x : Pat.dens q64_p) (y : HPat.dens q64_q) k => q64_ok q63 q26 q21 q20 (⟨x.1.1, x.1.2.1⟩ : Dcm) k
/-! ### humpyard/humpyardlaw03.Word -/
abbrev q74_ty (R : Type) : Type := Raw3 → (Str → Option R) → Option R
abbrev q74_p : List Pat := [.agg [.int .i64, .int .i64, .int .i64, .sl (.int .i64)]]
abbrev q74_q : List HPat := []
noncomputable def q74_rr {R : Type} (fn : q74_ty R) : Pat.dens q74_p → HPat.dens q74_q → (V → Heap → Option R) → Option R := fun x y k => fn (⟨x.1.1, x.1.2.1, x.1.2.2.1, x.1.2.2.2.1⟩ : Raw3) (fun q0 => k (.str q0) [])
noncomputable def q74_E (R : Type) (q78 : q78_ty R) (q70 : q70_ty R) (q85 : q85_ty R) (q64 : q64_ty R) (q73 : q73_ty R) : Env R := fun i => match i with
  | 37 => some (true, (specBy q78_p q78_q (q78_rr q78) specNo))
  | 26 => some (true, (specBy q70_p q70_q (q70_rr q70) specNo))
  | 28 => some (true, (specBy q85_p q85_q (q85_rr q85) specNo))
  | 46 => some (true, (specBy q64_p q64_q (q64_rr q64) specNo))
  | 27 => some (true, (specBy q73_p q73_q (q73_rr q73) specNo))
  | _ => none
theorem q74_EOk (R : Type) : EOk Tryz.prog (q74_E R q78 q70 q85 q64 q73) := by
  intro i b sp h
  unfold q74_E at h
  split at h
  · cases h; exact ⟨(q78_S_ok R _ (specNo_ok _)), fun h => nomatch h⟩
  · cases h; exact ⟨(q70_S_ok R _ (specNo_ok _)), fun h => nomatch h⟩
  · cases h; exact ⟨(q85_S_ok R _ (specNo_ok _)), fun h => nomatch h⟩
  · cases h; exact ⟨(q64_S_ok R _ (specNo_ok _)), fun h => nomatch h⟩
  · cases h; exact ⟨(q73_S_ok R _ (specNo_ok _)), fun h => nomatch h⟩
  · cases h
noncomputable def q74_T (R : Type) : Nat → Option (Hint × LSpec R) := fun i => match i with
  | _ => none
noncomputable def q74_X {R : Type} (q78 : q78_ty R) (q70 : q70_ty R) (q85 : q85_ty R) (q64 : q64_ty R) (q73 : q73_ty R) (x1 : Raw3) (k0 : Str → Option R) : Option R :=
  q73 x1.kind 4 (fun y2 => bif (y2 == 0) then (q73 x1.mant 6 (fun y3 => chk (decide ((0 : Int) ≤ y3) && decide (y3 < (6 : Int))) (k0 (([([123] : Str), ([125] : Str), ([91] : Str), ([93] : Str), ([44] : Str), ([58] : Str)] : List Str).getD y3.toNat (Ty.dflt .str))))) else (bif (y2 == 1) then (chk (decide ((0 : Int) ≤ (min (x1.text.length : Int) 30)) && decide ((min (x1.text.length : Int) 30) ≤ x1.text.length)) (chk (decide ((0 : Int) ≤ (min (x1.text.length : Int) 30))) (q78 ((x1.text.drop 0).take ((min (x1.text.length : Int) 30).toNat - 0)) (fun y4 => q70 y4 (fun y5 y6 => k0 y5))))) else (bif (y2 == 2) then (q85 x1.mant x1.exp (fun y7 => q64 y7 (fun y8 => k0 y8))) else (q73 x1.mant 3 (fun y9 => chk (decide ((0 : Int) ≤ y9) && decide (y9 < (3 : Int))) (k0 (([([116, 114, 117, 101] : Str), ([102, 97, 108, 115, 101] : Str), ([110, 117, 108, 108] : Str)] : List Str).getD y9.toNat (Ty.dflt .str))))))))
noncomputable def q74 {R : Type} : q74_ty R := fun x1 k0 => q74_X q78 q70 q85 q64 q73 x1 k0
theorem q74_ok {R : Type} (q78 : q78_ty R) (q70 : q70_ty R) (q85 : q85_ty R) (q64 : q64_ty R) (q73 : q73_ty R) (x1 : Raw3) (k : V → Heap → Option R) : funK tt (q74_E R q78 q70 q85 q64 q73) (q74_T R) false Tryz.f24 (codeOf Tryz.f24) [.agg [.int .i64 x1.kind, .int .i64 x1.mant, .int .i64 x1.exp, .sl (.int .i64) x1.text .no]] [] k =
    q74_X q78 q70 q85 q64 q73 x1 (fun q0 => k (.str q0) []) := by kernel_rfl
theorem q74_loops (R : Type) : ∀ a ∈ loopsOf (codeOf Tryz.f24), LoopOk tt (q74_E R q78 q70 q85 q64 q73) (q74_T R) 0 a := by
  refine loops_ok 0 (by kernel_rfl) fun i hi => ?_
  omega
theorem q74_S_ok (R : Type) (other : Yard.Spec R) (ho : Yard.Spec.Ok Tryz.prog 24 other) : Yard.Spec.Ok Tryz.prog 24 (specBy q74_p q74_q (q74_rr q74) other) :=
  specBy_ok ho (funK_sound TT mixed (q74_EOk R) (keep := false) rfl rfl rfl rfl 0 (q74_loops R)) fun (x : Pat.dens q74_p) (y : HPat.dens q74_q) k => q74_ok q78 q70 q85 q64 q73 (⟨x.1.1, x.1.2.1, x.1.2.2.1, x.1.2.2.2.1⟩ : Raw3) k
end Go.Proofs.YtmlkkgfenfdndaaGreatDoor
set_option maxRecDepth 100000
namespace Go.Proofs.YtmlkkgfenfdndaaGreatDoor
open Go Go.Yard Go.Lib
def zeros (n : Nat) : Str := List.replicate n 48
theorem zeros_len (n : Nat) : (zeros n).length = n := List.length_replicate
theorem repeatL_zeros : ∀ n : Nat, repeatL [48] n = zeros n
  | 0 => rfl
  | n + 1 => by
    have := repeatL_zeros n
    simp [repeatL, zeros, List.replicate_succ] at this ⊢
    try exact this
theorem repS_zeros (z : Int) : repS [48] z = zeros z.toNat := repeatL_zeros _
def body (L : Str) (e : Int) : Str :=
  if 0 ≤ e then L ++ zeros e.toNat
  else
    let t := zeros (max 0 (1 - e - (L.length : Int))).toNat ++ L
    t.take ((t.length : Int) + e).toNat ++ [46] ++ t.drop ((t.length : Int) + e).toNat
def prt (d : Dcm) : Str := (if d.mant < 0 then [45] else []) ++ body (decDigits d.mant.natAbs) d.exp
theorem wsn {R : Type} (x : Str) (hx : x.length ≤ 100000000000) (k : Int → List Int → Option R) : q20 x k = k (x.length : Int) (zs x) := by
  show chk (decide ((0 + (bytesN x).length) * 1 ≤ 140737488355328)) (k (x.length : Int) (bytesN x)) = _
  rw [zs_bytesN, chk_pos (dtrue (by rw [zs_len]; omega))]
theorem print_ok {R : Type} {d : Dcm} (h : Fm d) (k : Str → Option R) : q64 d k = k (prt d) := by
  have b := h.bounds
  have e : q64 d k = q64_X q63 q26 q21 q20 d k := rfl
  rw [e]
  unfold q64_X
  rw [right_ok h, Bool.not_true, cond_false]
  have hL : itoaS (max d.mant (IntKind.i64.wrap (0 - d.mant))) = decDigits d.mant.natAbs := by
    rw [wrap_id (n := 0 - d.mant) (by omega) (by omega)]
    have hm : max d.mant (0 - d.mant) = (d.mant.natAbs : Int) := by omega
    rw [hm]
    exact itoa_nonneg _
  have hlen : (decDigits d.mant.natAbs).length ≤ 16 := by rw [decDigits_length]; exact digits16 (by omega)
  simp only [hL, repS_zeros]
  unfold prt
  generalize decDigits d.mant.natAbs = L at *
  have w1 : IntKind.i64.wrap (1 - d.exp) = 1 - d.exp := wrap_id (by omega) (by omega)
  have w2 : IntKind.i64.wrap (1 - d.exp - (L.length : Int)) = 1 - d.exp - (L.length : Int) := wrap_id (by omega) (by omega)
  rw [w1, w2]
  have one : (([48] : Str).length : Int) = 1 := rfl
  rw [one]
  have z0 : 0 ≤ max 0 (1 - d.exp - (L.length : Int)) := by omega
  have zl : max 0 (1 - d.exp - (L.length : Int)) ≤ 10 := by omega
  have zL : 1 - d.exp ≤ max 0 (1 - d.exp - (L.length : Int)) + L.length := by omega
  unfold body
  simp only
  generalize max 0 (1 - d.exp - (L.length : Int)) = z at *
  have tl : (zeros z.toNat ++ L).length = z.toNat + L.length := by rw [List.length_append, zeros_len]
  generalize zeros z.toNat ++ L = t at *
  have lapp : ∀ a b : Str, (a ++ b).length = a.length + b.length := fun a b => List.length_append
  have lone : ([46] : Str).length = 1 := rfl
  have e45 : ([45] : List Int) = zs [45] := rfl
  have q2 : ∀ (x : Int) (f : List Int → Option R), q26 x f = f [x] := fun _ _ => rfl
  have lim45 : Lim [45] := by unfold Lim; simp
  by_cases he : 0 ≤ d.exp
  · rw [dtrue (show d.exp ≥ 0 from he), if_pos he]
    by_cases hm : d.mant < 0
    · rw [dtrue hm, if_pos hm]
      simp only [cond_true]
      rw [q2, chk_pos (by rw [dtrue (show 1 * d.exp ≤ 140737488355328 by omega)]; rfl), chk_pos (dtrue (by rw [zeros_len]; omega)), e45, ws _ _ (by rw [lapp, zeros_len]; omega) lim45, bstr_zs]
    · rw [dfalse hm, if_neg hm]
      simp only [cond_true, cond_false]
      rw [chk_pos (by rw [dtrue (show 1 * d.exp ≤ 140737488355328 by omega)]; rfl), chk_pos (dtrue (by rw [zeros_len]; omega)), wsn _ (by rw [lapp, zeros_len]; omega), bstr_zs]
      rfl
  · have wt : IntKind.i64.wrap ((t.length : Int) + d.exp) = (t.length : Int) + d.exp := wrap_id (by omega) (by omega)
    rw [dfalse (show ¬ d.exp ≥ 0 from he), if_neg he]
    simp only [wt, List.drop_zero, Nat.sub_zero, Int.toNat_natCast, cond_false]
    have l1 : (t.take ((t.length : Int) + d.exp).toNat).length ≤ t.length := by rw [List.length_take]; omega
    have l2 : (t.drop ((t.length : Int) + d.exp).toNat).length ≤ t.length := by rw [List.length_drop]; omega
    have c1 : (decide ((0 : Int) ≤ (t.length : Int) + d.exp) && decide ((t.length : Int) + d.exp ≤ (t.length : Int))) = true := by rw [dtrue (by omega), dtrue (by omega)]; rfl
    have c2 : (decide ((0 : Int) ≤ (t.length : Int)) && decide ((t.length : Int) ≤ (t.length : Int))) = true := by rw [dtrue (by omega), dtrue (by omega)]; rfl
    have c3 : (decide ((0 : Int) ≤ z) && decide (1 * z ≤ 140737488355328)) = true := by rw [dtrue z0, dtrue (by omega)]; rfl
    have et : (t.drop ((t.length : Int) + d.exp).toNat).take (t.length - ((t.length : Int) + d.exp).toNat) = t.drop ((t.length : Int) + d.exp).toNat := List.take_of_length_le (by rw [List.length_drop]; exact Nat.le_refl _)
    rw [et]
    by_cases hm : d.mant < 0
    · rw [dtrue hm, if_pos hm]
      simp only [cond_true]
      rw [q2, chk_pos c3, chk_pos (dtrue (by rw [zeros_len]; omega)), chk_pos c1, chk_pos (dtrue (by omega)), chk_pos (dtrue (by omega)), chk_pos c2, chk_pos c1, chk_pos (dtrue (by rw [lapp, lone]; omega)), e45, ws _ _ (by rw [lapp, lapp, lone]; omega) lim45, bstr_zs]
    · rw [dfalse hm, if_neg hm]
      simp only [cond_false]
      rw [chk_pos c3, chk_pos (dtrue (by rw [zeros_len]; omega)), chk_pos c1, chk_pos (dtrue (by omega)), chk_pos (dtrue (by omega)), chk_pos c2, chk_pos c1, chk_pos (dtrue (by rw [lapp, lone]; omega)), wsn _ (by rw [lapp, lapp, lone]; omega), bstr_zs]
      rfl
def plainP (s : Str) : Option (Nat × Str) :=
  if s = [] then none else if (decodeL s).1 = 65533 ∧ (decodeL s).2 = 1 then none else if (decodeL s).1 < 32 then none else some ((decodeL s).1, s.drop (decodeL s).2)
def hexv (b : UInt8) : Option Nat :=
  let n := b.toNat
  if 48 ≤ n ∧ n ≤ 57 then some (n - 48) else if 65 ≤ n ∧ n ≤ 70 then some (n - 55) else if 97 ≤ n ∧ n ≤ 102 then some (n - 87) else none
def hexN : Str → Nat → Option Nat
  | [], v => some v
  | b :: t, v => match hexv b with | some d => hexN t (16 * v + d) | none => none
def unitP (s : Str) : Option (Nat × Str) := if s.length < 4 then none else match hexN (s.take 4) 0 with | some v => some (v, s.drop 4) | none => none
def longP (s : Str) : Option (Nat × Str) :=
  match unitP s with
  | none => none
  | some (v, r) =>
    if v < 55296 ∨ 57344 ≤ v then some (v, r) else if 56320 ≤ v then none
    else if ([92, 117] : Str).isPrefixOf r then
      match unitP (r.drop 2) with
      | none => none
      | some (w, r2) => if 56320 ≤ w ∧ w < 57344 then some (65536 + (v - 55296) * 1024 + (w - 56320), r2) else none
    else none
def escP : Str → Option (Nat × Str)
  | [] => none
  | b :: t =>
    if b.toNat = 34 ∨ b.toNat = 92 ∨ b.toNat = 47 then some (b.toNat, t) else if b.toNat = 98 then some (8, t) else if b.toNat = 102 then some (12, t) else if b.toNat = 110 then some (10, t)
    else if b.toNat = 114 then some (13, t) else if b.toNat = 116 then some (9, t) else if b.toNat = 117 then longP t else none
def hexS : Str := [48, 49, 50, 51, 52, 53, 54, 55, 56, 57, 97, 98, 99, 100, 101, 102]
def shortC (c : Nat) : Nat := if c = 34 ∨ c = 92 then c else if c = 8 then 98 else if c = 12 then 102 else if c = 10 then 110 else if c = 13 then 114 else if c = 9 then 116 else 0
def qc (c : Nat) : Str := if shortC c ≠ 0 then [92, UInt8.ofNat (shortC c)] else if c < 32 then [92, 117, 48, 48, hexS.getD (c / 16) 0, hexS.getD (c % 16) 0] else enc c
def qcL (rs : List Nat) : Str := rs.flatMap qc
def qt (rs : List Nat) : Str := 34 :: (qcL rs ++ [34])
theorem shortC_lt (c : Nat) : shortC c < 256 := by unfold shortC; (repeat' split) <;> omega
theorem short_ok {R : Type} (c : Nat) (k : Int → Option R) : q71 (c : Int) k = k (shortC c : Int) := by
  show q71_X (c : Int) k = _
  unfold q71_X shortC
  have b : ∀ n : Nat, ((c : Int) == (n : Int)) = decide (c = n) := fun n => by
    by_cases h : c = n
    · subst h; simp
    · have : ¬ ((c : Int) = (n : Int)) := by omega
      simp [h, this]
  have b34 : ((c : Int) == 34) = decide (c = 34) := b 34
  have b92 : ((c : Int) == 92) = decide (c = 92) := b 92
  have b8 : ((c : Int) == 8) = decide (c = 8) := b 8
  have b12 : ((c : Int) == 12) = decide (c = 12) := b 12
  have b10 : ((c : Int) == 10) = decide (c = 10) := b 10
  have b13 : ((c : Int) == 13) = decide (c = 13) := b 13
  have b9 : ((c : Int) == 9) = decide (c = 9) := b 9
  rw [b34, b92, b8, b12, b10, b13, b9]
  have w : IntKind.u8.wrap (c : Int) = ((c % 256 : Nat) : Int) := wrap8 c
  by_cases h34 : c = 34
  · subst h34; rfl
  by_cases h92 : c = 92
  · subst h92; rfl
  simp only [h34, h92, decide_false, cond_false, or_self, if_false]
  by_cases h8 : c = 8
  · subst h8; rfl
  by_cases h12 : c = 12
  · subst h12; rfl
  by_cases h10 : c = 10
  · subst h10; rfl
  by_cases h13 : c = 13
  · subst h13; rfl
  by_cases h9 : c = 9
  · subst h9; rfl
  simp [h8, h12, h10, h13, h9]
theorem runeAt_drop (s : Str) (pos : Nat) : runeAt s pos = decodeL (s.drop pos) := by
  unfold runeAt
  exact (decodeL_drop ⟨s.toArray⟩ pos).symm
theorem enc_head (rs : List Nat) (c : Nat) (t : List Nat) : encL (rs ++ c :: t) = encL rs ++ (enc c ++ encL t) := by simp [encL]
theorem hexdig : ∀ c : Fin 32, (Int.fdiv (c.val : Int) (2 ^ (min 4 IntKind.i32.bits))) = ((c.val / 16 : Nat) : Int) ∧ IntKind.i32.wrap ((BitVec.ofInt IntKind.i32.bits (c.val : Int) &&& BitVec.ofInt IntKind.i32.bits 15).toNat : Int) = ((c.val % 16 : Nat) : Int) := by decide +kernel
theorem qc_len {c : Nat} (hv : vr c) : (qc c).length ≤ 6 := by
  unfold qc
  split
  · simp
  · split
    · simp
    · have := enc_len hv; omega
theorem quote_round {R : Type} {x : Str} {pos c : Nat} (hp : pos < x.length) {t : Str} (hd : x.drop pos = enc c ++ t) (hv : vr c) (o : Str) (ho : o.length ≤ 90000000000) (rec' : List Int → Str → Nat → Option R) (e0 : List Int → Option R) :
    q70_6_0_B q25 q71 q21 q24 rec' (zs o) x pos e0 = rec' (zs (o ++ qc c)) x (pos + (enc c).length) := by
  unfold q70_6_0_B
  have hr : runeAt x pos = (c, (enc c).length) := by rw [runeAt_drop, hd, dec_enc hv]
  rw [hr, dtrue hp, cond_true]
  simp only
  rw [short_ok]
  have hlim : ∀ z : Str, z.length ≤ 10 → Lim (o ++ z) := fun z hz => by unfold Lim; rw [List.length_append]; omega
  have hlim0 : Lim o := by unfold Lim; omega
  by_cases hs : shortC c ≠ 0
  · have e : ((shortC c : Int) != 0) = true := by
      exact bne_iff_ne.2 (by omega)
    rw [e, cond_true]
    have h92 : (92 : Int) = ((92 : UInt8).toNat : Int) := rfl
    rw [h92, wb _ o hlim0]
    have h2 : (shortC c : Int) = ((UInt8.ofNat (shortC c)).toNat : Int) := by rw [u8_nat _ (shortC_lt c)]
    rw [h2, wb _ _ (hlim [92] (by simp))]
    have : qc c = [92, UInt8.ofNat (shortC c)] := by unfold qc; rw [if_pos hs]
    rw [this, List.append_assoc]
    rfl
  · have hs0 : shortC c = 0 := by omega
    have e : ((shortC c : Int) != 0) = false := by rw [hs0]; rfl
    rw [e, cond_false]
    by_cases h32 : c < 32
    · rw [dtrue (show (c : Int) < 32 by omega), cond_true, ws _ o (by simp) hlim0]
      obtain ⟨k1, k2⟩ := hexdig ⟨c, h32⟩
      simp only at k1 k2
      rw [k1, k2, chk_pos (by rw [dtrue (by omega), dtrue (by omega)]; rfl)]
      rw [Int.toNat_natCast, Int.toNat_natCast, wb _ _ (hlim [92, 117, 48, 48] (by simp)), chk_pos (by rw [dtrue (by omega), dtrue (by omega)]; rfl)]
      rw [List.append_assoc o, wb _ _ (hlim _ (by simp))]
      have : qc c = [92, 117, 48, 48, hexS.getD (c / 16) 0, hexS.getD (c % 16) 0] := by unfold qc; rw [if_neg hs, if_pos h32]
      rw [this, List.append_assoc o]
      rfl
    · rw [dfalse (show ¬ (c : Int) < 32 by omega), cond_false]
      obtain ⟨n, hn⟩ := wr hv o hlim0 (fun y14 y15 => rec' y15 x (pos + (enc c).length))
      rw [hn]
      have : qc c = enc c := by unfold qc; rw [if_neg hs, if_neg h32]
      rw [this]
theorem quote_loop {R : Type} (rs : List Nat) : ∀ (n : Nat) (done : List Nat) (o : Str), rs.length < n → (∀ c ∈ rs, vr c) → (∀ c ∈ done, vr c) → o.length + 6 * rs.length ≤ 80000000000 → ∀ e0 : List Int → Option R,
    q70_6_0_L n (zs o) (encL (done ++ rs)) (encL done).length e0 = e0 (zs (o ++ qcL rs)) := by
  induction rs with
  | nil =>
    intro n done o hn _ _ _ e0
    obtain ⟨m, rfl⟩ : ∃ m, n = m + 1 := ⟨n - 1, by simp at hn; omega⟩
    show q70_6_0_B q25 q71 q21 q24 _ (zs o) (encL (done ++ [])) (encL done).length e0 = _
    unfold q70_6_0_B
    rw [List.append_nil, dfalse (Nat.lt_irrefl _), cond_false]
    simp [qcL]
  | cons c rs ih =>
    intro n done o hn hr hd hl e0
    obtain ⟨m, rfl⟩ : ∃ m, n = m + 1 := ⟨n - 1, by simp at hn; omega⟩
    have hv := hr c (by simp)
    have he := enc_len hv
    have hq := qc_len hv
    simp only [List.length_cons] at hn hl
    show q70_6_0_B q25 q71 q21 q24 (fun x0' x1' x2' => q70_6_0_L m x0' x1' x2' e0) (zs o) (encL (done ++ c :: rs)) (encL done).length e0 = _
    rw [quote_round (c := c) (t := encL rs) (by rw [enc_head, List.length_append, List.length_append]; omega) (by rw [enc_head, List.drop_left]) hv o (by omega)]
    have e1 : done ++ c :: rs = (done ++ [c]) ++ rs := by simp
    have e2 : (encL done).length + (enc c).length = (encL (done ++ [c])).length := by rw [encL_snoc, List.length_append]
    rw [e1, e2, ih m (done ++ [c]) (o ++ qc c) (by omega) (fun x hx => hr x (by simp [hx])) (fun x hx => by
      rcases List.mem_append.1 hx with h | h
      · exact hd x h
      · simp at h; subst h; exact hv) (by rw [List.length_append]; omega)]
    rw [List.append_assoc]
    rfl
theorem encL_count : ∀ (rs : List Nat), (∀ c ∈ rs, vr c) → rs.length ≤ (encL rs).length ∧ (encL rs).length ≤ 4 * rs.length
  | [], _ => by simp [encL]
  | c :: rs, h => by
    have h1 := enc_len (h c (by simp))
    have h2 := encL_count rs (fun x hx => h x (by simp [hx]))
    have : encL (c :: rs) = enc c ++ encL rs := by simp [encL]
    rw [this, List.length_append, List.length_cons]
    omega
theorem qcL_count : ∀ (rs : List Nat), (∀ c ∈ rs, vr c) → (qcL rs).length ≤ 6 * rs.length
  | [], _ => by simp [qcL]
  | c :: rs, h => by
    have h1 := qc_len (h c (by simp))
    have h2 := qcL_count rs (fun x hx => h x (by simp [hx]))
    have : qcL (c :: rs) = qc c ++ qcL rs := by simp [qcL]
    rw [this, List.length_append, List.length_cons]
    omega
theorem quote_ok {R : Type} (rs : List Nat) (hr : ∀ c ∈ rs, vr c) (hl : rs.length ≤ 10000000000) (k : Str → Bool → Option R) : q70 (encL rs) k = k (qt rs) true := by
  have hc := encL_count rs hr
  have hq := qcL_count rs hr
  have hw : validS (encL rs) = true := whole_iff.2 ⟨rs, hr, rfl⟩
  show q70_X q68 q26 q25 q70_6_0_L (encL rs) k = _
  unfold q70_X
  have q : ∀ (x : Str) (f : Bool → Option R), q68 x f = f (validS x) := fun _ _ => rfl
  have q2 : ∀ (x : Int) (f : List Int → Option R), q26 x f = f [x] := fun _ _ => rfl
  rw [q, hw, Bool.not_true, cond_false, q2]
  have e34 : ([34] : List Int) = zs [34] := rfl
  rw [e34]
  have := quote_loop (R := R) rs (List.length (zs [34]) + List.length (encL rs) + 64) [] [34] (by omega) hr (by simp) (by simp; omega)
  rw [List.nil_append] at this
  have e0 : (encL []).length = 0 := rfl
  rw [e0] at this
  rw [this]
  have h34 : (34 : Int) = ((34 : UInt8).toNat : Int) := rfl
  rw [h34, wb _ _ (by unfold Lim; rw [List.length_append]; simp; omega), bstr_zs]
  rfl
theorem quote_bad {R : Type} (s : Str) (h : validS s = false) (k : Str → Bool → Option R) : q70 s k = k [] false := by
  show q70_X q68 q26 q25 q70_6_0_L s k = _
  unfold q70_X
  have q : ∀ (x : Str) (f : Bool → Option R), q68 x f = f (validS x) := fun _ _ => rfl
  rw [q, h]
  rfl
def stepU (s : Str) : Option (Nat × Str) := if ([92] : Str).isPrefixOf s then escP (s.drop 1) else plainP s
def uq : Nat → Str → Str → Option (Str × Str)
  | 0, _, _ => none
  | n + 1, s, o => if ([34] : Str).isPrefixOf s then some (o, s.drop 1) else match stepU s with | none => none | some (c, r) => uq n r (o ++ enc c)
def uqS (s : Str) : Option (Str × Str) := if ([34] : Str).isPrefixOf s then uq (s.length + 1) (s.drop 1) [] else none
theorem pre_cons (a b : UInt8) (t : Str) : ([a] : Str).isPrefixOf (b :: t) = (a == b) := by
  simp [List.isPrefixOf]
theorem hex_back : ∀ c : Fin 32, hexN [48, 48, hexS.getD (c.val / 16) 0, hexS.getD (c.val % 16) 0] 0 = some c.val := by decide +kernel
theorem u8_ne {b : UInt8} {n : Nat} (hn : n < 256) (h : b.toNat ≠ n) : ((UInt8.ofNat n) == b) = false := by
  rw [beq_eq_false_iff_ne]
  rintro rfl
  rw [u8_nat n hn] at h
  exact h rfl
theorem enc_first {c : Nat} (hv : vr c) (h : 32 ≤ c) (h34 : c ≠ 34) (h92 : c ≠ 92) : ∃ b t, enc c = b :: t ∧ b.toNat ≠ 34 ∧ b.toNat ≠ 92 := by
  have hlt := vr_lt hv
  rcases enc_cases hv with ⟨h1, e⟩ | ⟨h0, h1, e⟩ | ⟨h0, h1, e⟩ | ⟨h0, e⟩
  · exact ⟨_, _, e, by rw [u8_nat _ (by omega)]; exact h34, by rw [u8_nat _ (by omega)]; exact h92⟩
  · exact ⟨_, _, e, by rw [u8_nat _ (by omega)]; omega, by rw [u8_nat _ (by omega)]; omega⟩
  · exact ⟨_, _, e, by rw [u8_nat _ (by omega)]; omega, by rw [u8_nat _ (by omega)]; omega⟩
  · exact ⟨_, _, e, by rw [u8_nat _ (by omega)]; omega, by rw [u8_nat _ (by omega)]; omega⟩
theorem shortC_cases (c : Nat) : (shortC c = 0 ∧ c ≠ 34 ∧ c ≠ 92) ∨ c = 34 ∨ c = 92 ∨ c = 8 ∨ c = 12 ∨ c = 10 ∨ c = 13 ∨ c = 9 := by
  unfold shortC
  by_cases h1 : c = 34 <;> by_cases h2 : c = 92 <;> by_cases h3 : c = 8 <;> by_cases h4 : c = 12 <;> by_cases h5 : c = 10 <;> by_cases h6 : c = 13 <;> by_cases h7 : c = 9 <;> simp [h1, h2, h3, h4, h5, h6, h7]
theorem qc_hex {c : Nat} (h0 : shortC c = 0) (h : c < 32) : qc c = [92, 117, 48, 48, hexS.getD (c / 16) 0, hexS.getD (c % 16) 0] := by unfold qc; rw [if_neg (by omega), if_pos h]
theorem qc_enc {c : Nat} (h0 : shortC c = 0) (h : ¬ c < 32) : qc c = enc c := by unfold qc; rw [if_neg (by omega), if_neg h]
theorem step_qc {c : Nat} (hv : vr c) (t : Str) : ([34] : Str).isPrefixOf (qc c ++ t) = false ∧ stepU (qc c ++ t) = some (c, t) := by
  rcases shortC_cases c with ⟨h0, h34, h92⟩ | rfl | rfl | rfl | rfl | rfl | rfl | rfl
  · by_cases h32 : c < 32
    · rw [qc_hex h0 h32]
      refine ⟨rfl, ?_⟩
      have hb := hex_back ⟨c, h32⟩
      simp only at hb
      show longP (48 :: 48 :: hexS.getD (c / 16) 0 :: hexS.getD (c % 16) 0 :: t) = some (c, t)
      have hu : unitP (48 :: 48 :: hexS.getD (c / 16) 0 :: hexS.getD (c % 16) 0 :: t) = some (c, t) := by
        unfold unitP
        rw [if_neg (by simp only [List.length_cons]; omega)]
        have e : List.take 4 (48 :: 48 :: hexS.getD (c / 16) 0 :: hexS.getD (c % 16) 0 :: t) = [48, 48, hexS.getD (c / 16) 0, hexS.getD (c % 16) 0] := rfl
        rw [e, hb]
        rfl
      unfold longP
      rw [hu]
      simp only
      rw [if_pos (.inl (by omega))]
    · rw [qc_enc h0 h32]
      obtain ⟨b, u, e, g1, g2⟩ := enc_first hv (by omega) h34 h92
      have e2 : enc c ++ t = b :: (u ++ t) := by rw [e]; rfl
      refine ⟨?_, ?_⟩
      · rw [e2, pre_cons]
        exact u8_ne (n := 34) (by omega) g1
      · unfold stepU
        have : ([92] : Str).isPrefixOf (enc c ++ t) = false := by
          rw [e2, pre_cons]
          exact u8_ne (n := 92) (by omega) g2
        rw [this]
        simp only [Bool.false_eq_true, if_false]
        unfold plainP
        rw [if_neg (enc_ne hv t), dec_enc hv t]
        simp only
        have hg := good_enc hv t
        unfold good at hg
        rw [dec_enc hv t] at hg
        simp only at hg
        rw [if_neg hg, if_neg h32, List.drop_left]
  · exact ⟨rfl, rfl⟩
  · exact ⟨rfl, rfl⟩
  · exact ⟨rfl, rfl⟩
  · exact ⟨rfl, rfl⟩
  · exact ⟨rfl, rfl⟩
  · exact ⟨rfl, rfl⟩
  · exact ⟨rfl, rfl⟩
theorem uq_qc : ∀ (rs : List Nat), (∀ c ∈ rs, vr c) → ∀ (n : Nat) (o more : Str), rs.length < n → uq n (qcL rs ++ 34 :: more) o = some (o ++ encL rs, more)
  | [], _, n, o, more, hn => by
    obtain ⟨m, rfl⟩ : ∃ m, n = m + 1 := ⟨n - 1, by simp at hn; omega⟩
    have : qcL [] ++ 34 :: more = 34 :: more := rfl
    rw [this]
    simp [uq, List.isPrefixOf, encL]
  | c :: rs, hr, n, o, more, hn => by
    obtain ⟨m, rfl⟩ : ∃ m, n = m + 1 := ⟨n - 1, by simp at hn; omega⟩
    have hv := hr c (by simp)
    have e : qcL (c :: rs) ++ 34 :: more = qc c ++ (qcL rs ++ 34 :: more) := by simp [qcL]
    obtain ⟨h1, h2⟩ := step_qc hv (qcL rs ++ 34 :: more)
    rw [e]
    simp only [uq, h1, h2, Bool.false_eq_true, if_false]
    rw [uq_qc rs (fun x hx => hr x (by simp [hx])) m (o ++ enc c) more (by simp at hn; omega)]
    simp [encL]
theorem qc_pos {c : Nat} (hv : vr c) : 1 ≤ (qc c).length := by
  unfold qc
  split
  · simp
  · split
    · simp
    · exact (enc_len hv).1
theorem qcL_pos : ∀ (rs : List Nat), (∀ c ∈ rs, vr c) → rs.length ≤ (qcL rs).length
  | [], _ => by simp [qcL]
  | c :: rs, h => by
    have h1 := qc_pos (h c (by simp))
    have h2 := qcL_pos rs (fun x hx => h x (by simp [hx]))
    have : qcL (c :: rs) = qc c ++ qcL rs := by simp [qcL]
    rw [this, List.length_append, List.length_cons]
    omega
theorem uqS_qt (rs : List Nat) (hr : ∀ c ∈ rs, vr c) (more : Str) : uqS (qt rs ++ more) = some (encL rs, more) := by
  have e : qt rs ++ more = 34 :: (qcL rs ++ 34 :: more) := by unfold qt; simp
  have hq := qcL_pos rs hr
  rw [e]
  unfold uqS
  rw [pre_cons]
  simp only [BEq.rfl, if_true, List.drop_succ_cons, List.drop_zero]
  have := uq_qc rs hr ((34 :: (qcL rs ++ 34 :: more)).length + 1) [] more (by simp only [List.length_cons, List.length_append]; omega)
  rw [this]
  rfl
theorem whole_eq {R : Type} (x : Str) (f : Bool → Option R) : q68 x f = f (validS x) := rfl
theorem quote_any {R : Type} (s : Str) (hl : s.length ≤ 10000000000) : (∃ rs : List Nat, (∀ c ∈ rs, vr c) ∧ rs.length ≤ s.length ∧ s = encL rs ∧ validS s = true ∧ ∀ k : Str → Bool → Option R, q70 s k = k (qt rs) true) ∨
    (validS s = false ∧ ∀ k : Str → Bool → Option R, q70 s k = k [] false) := by
  cases h : validS s with
  | true =>
    obtain ⟨rs, hr, rfl⟩ := whole_iff.1 h
    have := encL_count rs hr
    exact .inl ⟨rs, hr, this.1, rfl, rfl, fun k => quote_ok rs hr (by omega) k⟩
  | false => exact .inr ⟨rfl, fun k => quote_bad s h k⟩
end Go.Proofs.YtmlkkgfenfdndaaGreatDoor
/-
  Functions of the program as pure Lean functions, and the ties; printed by wip/tools/emit.py.
-/
set_option maxRecDepth 100000
namespace Go.Proofs.YtmlkkgfenfdndaaGreatDoor
open Go Go.Yard
end Go.Proofs.YtmlkkgfenfdndaaGreatDoor
/-
  Functions of the program as pure Lean functions, and the ties; printed by wip/tools/emit.py.
-/
set_option maxRecDepth 100000
namespace Go.Proofs.YtmlkkgfenfdndaaGreatDoor
open Go Go.Yard
end Go.Proofs.YtmlkkgfenfdndaaGreatDoor
/-
  Functions of the program as pure Lean functions, and the ties; printed by wip/tools/emit.py.
-/
set_option maxRecDepth 100000
namespace Go.Proofs.YtmlkkgfenfdndaaGreatDoor
open Go Go.Yard
end Go.Proofs.YtmlkkgfenfdndaaGreatDoor
set_option maxRecDepth 100000
namespace Go.Proofs.YtmlkkgfenfdndaaGreatDoor
open Go Go.Yard Go.Lib
def tail (low v n : Nat) : Nat := if v < low ∨ 1114111 < v ∨ (55296 ≤ v ∧ v ≤ 57343) then 0 else n
end Go.Proofs.YtmlkkgfenfdndaaGreatDoor
/-
  Functions of the program as pure Lean functions, and the ties; printed by wip/tools/emit.py.
-/
set_option maxRecDepth 100000
namespace Go.Proofs.YtmlkkgfenfdndaaGreatDoor
open Go Go.Yard
end Go.Proofs.YtmlkkgfenfdndaaGreatDoor
set_option maxRecDepth 100000
namespace Go.Proofs.YtmlkkgfenfdndaaGreatDoor
open Go Go.Yard Go.Lib
theorem eqI (n m : Nat) : ((n : Int) == (m : Int)) = decide (n = m) := by
  by_cases h : n = m
  · subst h; simp
  · have : ¬ ((n : Int) = (m : Int)) := by omega
    simp [h, this]
def qb (b : UInt8) : Str :=
  if b.toNat = 34 ∨ b.toNat = 92 then [92, b] else if b.toNat = 8 then [92, 98] else if b.toNat = 9 then [92, 116] else if b.toNat = 10 then [92, 110] else if b.toNat = 12 then [92, 102] else if b.toNat = 13 then [92, 114]
  else if b.toNat < 32 then [92, 117, 48, 48, hexS.getD (b.toNat / 16) 0, hexS.getD (b.toNat % 16) 0] else [b]
theorem qb_len (b : UInt8) : (qb b).length ≤ 6 := by unfold qb; (repeat' split) <;> simp
theorem qb_high {b : UInt8} (h : 128 ≤ b.toNat) : qb b = [b] := by
  unfold qb
  rw [if_neg (by omega), if_neg (by omega), if_neg (by omega), if_neg (by omega), if_neg (by omega), if_neg (by omega), if_neg (by omega)]
theorem qb_enc {c : Nat} (hv : vr c) : (enc c).flatMap qb = qc c := by
  have hlt := vr_lt hv
  rcases enc_cases hv with ⟨h1, e⟩ | ⟨h0, h1, e⟩ | ⟨h0, h1, e⟩ | ⟨h0, e⟩
  · rw [e]
    simp only [List.flatMap_cons, List.flatMap_nil, List.append_nil]
    have hu := u8_nat c (by omega)
    unfold qb qc shortC
    rw [hu]
    by_cases h34 : c = 34
    · subst h34; rfl
    by_cases h92 : c = 92
    · subst h92; rfl
    by_cases h8 : c = 8
    · subst h8; rfl
    by_cases h9 : c = 9
    · subst h9; rfl
    by_cases h10 : c = 10
    · subst h10; rfl
    by_cases h12 : c = 12
    · subst h12; rfl
    by_cases h13 : c = 13
    · subst h13; rfl
    simp only [h34, h92, h8, h9, h10, h12, h13, or_self, if_false, ne_eq, not_true_eq_false]
    by_cases h32 : c < 32
    · simp only [h32, if_true]
    · simp only [h32, if_false]
      rw [e]
  · have hq : qc c = enc c := qc_enc (by unfold shortC; rw [if_neg (by omega), if_neg (by omega), if_neg (by omega), if_neg (by omega), if_neg (by omega), if_neg (by omega)]) (by omega)
    rw [hq, e]
    simp only [List.flatMap_cons, List.flatMap_nil, List.append_nil]
    rw [qb_high (by rw [u8_nat _ (by omega)]; omega), qb_high (by rw [u8_nat _ (by omega)]; omega)]; rfl
  · have hq : qc c = enc c := qc_enc (by unfold shortC; rw [if_neg (by omega), if_neg (by omega), if_neg (by omega), if_neg (by omega), if_neg (by omega), if_neg (by omega)]) (by omega)
    rw [hq, e]
    simp only [List.flatMap_cons, List.flatMap_nil, List.append_nil]
    rw [qb_high (by rw [u8_nat _ (by omega)]; omega), qb_high (by rw [u8_nat _ (by omega)]; omega), qb_high (by rw [u8_nat _ (by omega)]; omega)]; rfl
  · have hq : qc c = enc c := qc_enc (by unfold shortC; rw [if_neg (by omega), if_neg (by omega), if_neg (by omega), if_neg (by omega), if_neg (by omega), if_neg (by omega)]) (by omega)
    rw [hq, e]
    simp only [List.flatMap_cons, List.flatMap_nil, List.append_nil]
    rw [qb_high (by rw [u8_nat _ (by omega)]; omega), qb_high (by rw [u8_nat _ (by omega)]; omega), qb_high (by rw [u8_nat _ (by omega)]; omega), qb_high (by rw [u8_nat _ (by omega)]; omega)]; rfl
theorem qb_encL : ∀ (rs : List Nat), (∀ c ∈ rs, vr c) → (encL rs).flatMap qb = qcL rs
  | [], _ => rfl
  | c :: rs, h => by
    have e : encL (c :: rs) = enc c ++ encL rs := by simp [encL]
    have e2 : qcL (c :: rs) = qc c ++ qcL rs := by simp [qcL]
    rw [e, e2, List.flatMap_append, qb_enc (h c (by simp)), qb_encL rs (fun x hx => h x (by simp [hx]))]
theorem dec_all (u : Nat) : ∀ b ∈ decDigits u, 48 ≤ b.toNat ∧ b.toNat ≤ 57 := by
  induction u using Nat.strongRecOn with
  | _ u ih =>
    intro b hb
    by_cases h : u < 10
    · rw [decDigits, dif_pos h] at hb
      simp only [List.mem_cons, List.not_mem_nil, or_false] at hb
      subst hb
      rw [u8_nat _ (by omega)]; omega
    · rw [decDigits, dif_neg h] at hb
      rcases List.mem_append.1 hb with hb | hb
      · exact ih (u / 10) (by omega) b hb
      · simp only [List.mem_cons, List.not_mem_nil, or_false] at hb
        subst hb
        rw [u8_nat _ (by omega)]; omega
theorem dec_first (u : Nat) (hu : 0 < u) : ∃ b t, decDigits u = b :: t ∧ b.toNat ≠ 48 := by
  induction u using Nat.strongRecOn with
  | _ u ih =>
    by_cases h : u < 10
    · exact ⟨_, [], by rw [decDigits, dif_pos h], by rw [u8_nat _ (by omega)]; omega⟩
    · obtain ⟨b, t, e, hb⟩ := ih (u / 10) (by omega) (by omega)
      exact ⟨b, t ++ [UInt8.ofNat (48 + u % 10)], by rw [decDigits, dif_neg h, e]; rfl, hb⟩
theorem dec_last (u : Nat) : ∃ l, decDigits u = l ++ [UInt8.ofNat (48 + u % 10)] := by
  by_cases h : u < 10
  · exact ⟨[], by rw [decDigits, dif_pos h, Nat.mod_eq_of_lt h]; rfl⟩
  · exact ⟨decDigits (u / 10), by rw [decDigits, dif_neg h]⟩
theorem tmod_abs {m : Int} (h : Int.tmod m 10 ≠ 0) : m.natAbs % 10 ≠ 0 := by
  intro h2
  apply h
  have e : m = (m / 10) * 10 := by omega
  rw [e]
  exact Int.mul_tmod_left _ _
theorem idx_neg (c : UInt8) : ∀ l : Str, Go.Lib.indexByte l c < 0 ↔ l.contains c = false
  | [] => by simp [Go.Lib.indexByte]
  | x :: l => by
    have ih := idx_neg c l
    have hg := Go.Lib.indexByte_ge l c
    unfold Go.Lib.indexByte
    rw [List.contains_cons]
    by_cases h : x = c
    · subst h; simp
    · have h2 : (c == x) = false := by rw [beq_eq_false_iff_ne]; exact fun e => h e.symm
      rw [h2, Bool.false_or, ← ih]
      split
      · rename_i h3; exact (h (beq_iff_eq.1 h3)).elim
      · split
        · rename_i h4
          have := beq_iff_eq.1 h4
          omega
        · rename_i h4
          have : ¬ Go.Lib.indexByte l c = -1 := fun e => h4 (beq_iff_eq.2 e)
          omega
def signP (signs s : Str) : Nat × Str := match s with | [] => (0, []) | b :: t => if signs.contains b then (b.toNat, t) else (0, b :: t)
theorem sign_ok {R : Type} (signs s : Str) (hs : s.length ≤ 4000000000) (k : Int → Str → Option R) : q38 signs s k = k ((signP signs s).1 : Int) (signP signs s).2 := by
  have e : q38 signs s k = q38_X signs s k := rfl
  rw [e]
  unfold q38_X
  cases s with
  | nil => rfl
  | cons b t =>
    simp only [List.length_cons] at hs
    have hne : ((b :: t : Str) == ([] : Str)) = false := rfl
    have hg : ((b :: t : Str).getD 0 0) = b := rfl
    have hd : ((b :: t : Str).drop 1).take (((b :: t : Str).length : Int).toNat - 1) = t := by
      rw [Int.toNat_natCast, List.drop_succ_cons, List.drop_zero, List.length_cons, Nat.add_sub_cancel, List.take_length]
    have hi : idxByte signs ((b.toNat : Nat) : Int) = Go.Lib.indexByte signs b := by
      unfold idxByte
      rw [Int.toNat_natCast]
      simp
    have hl : (b :: t : Str).length = t.length + 1 := rfl
    rw [hne, cond_false, hg, hd, hi, hl, chk_pos (dtrue (by omega))]
    unfold signP
    cases hc : signs.contains b with
    | false =>
      rw [dtrue ((idx_neg b signs).2 hc), cond_true]
      simp only [hc, Bool.false_eq_true, if_false]
      rfl
    | true =>
      have : ¬ Go.Lib.indexByte signs b < 0 := fun h => by rw [(idx_neg b signs).1 h] at hc; cases hc
      rw [dfalse this, cond_false, chk_pos (dtrue (by omega)), chk_pos (by rw [dtrue (show (0 : Int) ≤ ((t.length + 1 : Nat) : Int) by omega), dtrue (by omega)]; rfl), chk_pos (dtrue (by omega))]
      simp only [hc, if_true]
def digS : Str := [48, 49, 50, 51, 52, 53, 54, 55, 56, 57]
def isDig (b : UInt8) : Prop := 48 ≤ b.toNat ∧ b.toNat ≤ 57
theorem digS_all : ∀ n : Fin 256, digS.contains (UInt8.ofNat n.val) = decide (48 ≤ n.val ∧ n.val ≤ 57) := by decide +kernel
theorem digS_ok (b : UInt8) : digS.contains b = decide (48 ≤ b.toNat ∧ b.toNat ≤ 57) := by
  have := digS_all ⟨b.toNat, UInt8.toNat_lt b⟩
  simpa using this
theorem dropW_app (p : UInt8 → Bool) : ∀ (a r : Str), (∀ x ∈ a, p x = true) → (a ++ r).dropWhile p = r.dropWhile p
  | [], r, _ => rfl
  | x :: a, r, h => by
    rw [List.cons_append, List.dropWhile_cons, h x (by simp), if_pos rfl]
    exact dropW_app p a r fun y hy => h y (by simp [hy])
theorem dropW_head (p : UInt8 → Bool) (r : Str) (h : ∀ b t, r = b :: t → p b = false) : r.dropWhile p = r := by
  cases r with
  | nil => rfl
  | cons b t => rw [List.dropWhile_cons, h b t rfl]; rfl
theorem digits_ok {R : Type} (a r : Str) (ha : ∀ x ∈ a, isDig x) (hr : ∀ b t, r = b :: t → ¬ isDig b) (hl : (a ++ r).length ≤ 4000000000) (k : Str → Str → Option R) : q32 (a ++ r) k = k a r := by
  have e : q32 (a ++ r) k = q32_X (a ++ r) k := rfl
  rw [e]
  unfold q32_X
  have ht : trimL (a ++ r) ([48, 49, 50, 51, 52, 53, 54, 55, 56, 57] : Str) = r := by
    unfold trimL
    have h1 := dropW_app (fun x => digS.contains x) a r (fun x hx => by rw [digS_ok]; exact dtrue (ha x hx))
    have h2 := dropW_head (fun x => digS.contains x) r (fun b t hb => by rw [digS_ok]; exact dfalse (hr b t hb))
    exact h1.trans h2
  rw [ht]
  have hlen : (a ++ r).length = a.length + r.length := List.length_append
  have hw : IntKind.i64.wrap (((a ++ r).length : Int) - (r.length : Int)) = (a.length : Int) := by rw [hlen, wrap_id (by omega) (by omega)]; omega
  rw [hw, chk_pos (by rfl), chk_pos (by rw [dtrue (by omega), dtrue (by omega)]; rfl), chk_pos (dtrue (by omega)), List.drop_zero, Int.toNat_natCast, Nat.sub_zero, List.take_left]
theorem parse_ok {R : Type} (neg : Bool) (I F X : Str) (pt : Bool) (ev : Int) (hI : ∀ x ∈ I, isDig x) (hI0 : I ≠ []) (hI1 : 1 < I.length → (I.getD 0 0).toNat ≠ 48) (hF : ∀ x ∈ F, isDig x) (hF0 : pt = true → F ≠ []) (hF1 : pt = false → F = [])
    (hX : (X = [] ∧ ev = 0) ∨ ∃ b Y, X = b :: Y ∧ (b = 101 ∨ b = 69) ∧ ∀ f : Int → Bool → Str → Option R, q30 Y f = f ev true []) (hev : -1000000 ≤ ev ∧ ev ≤ 1000000)
    (hlen : ((if neg then [45] else []) ++ (I ++ ((if pt then 46 :: F else []) ++ X))).length ≤ 400)
    (hsh : (trimR (trimL (I ++ F) [48]) [48]).length ≤ 18) (k : Dcm → Bool → Option R) :
    q61 ((if neg then [45] else []) ++ (I ++ ((if pt then 46 :: F else []) ++ X))) k =
      q65 (if neg then IntKind.i64.wrap (0 - atoiVal (48 :: trimR (trimL (I ++ F) [48]) [48])) else atoiVal (48 :: trimR (trimL (I ++ F) [48]) [48])) (-(F.length : Int) + ev + (((trimL (I ++ F) [48]).length : Int) - ((trimR (trimL (I ++ F) [48]) [48]).length : Int))) k := by
  generalize hS : (if neg then [45] else []) ++ (I ++ ((if pt then 46 :: F else []) ++ X)) = s at *
  have e : q61 s k = q61_X q65 q38 q32 q30 s k := rfl
  rw [e]
  unfold q61_X
  -- the pieces
  obtain ⟨i0, It, hIe⟩ : ∃ b t, I = b :: t := by cases I with | nil => exact (hI0 rfl).elim | cons b t => exact ⟨b, t, rfl⟩
  have hi0 := hI i0 (by rw [hIe]; simp)
  have hXh : ∀ b t, X = b :: t → ¬ isDig b ∧ b.toNat ≠ 46 := by
    intro b t hb
    rcases hX with ⟨rfl, _⟩ | ⟨c, Y, rfl, hc, _⟩
    · cases hb
    · cases hb
      rcases hc with rfl | rfl <;> exact ⟨by unfold isDig; decide, by decide⟩
  have hs1 : signP [45] s = (if neg then 45 else 0, I ++ ((if pt then 46 :: F else []) ++ X)) := by
    rw [← hS]
    cases neg with
    | true => rfl
    | false =>
      rw [hIe]
      have : ([45] : Str).contains i0 = false := by
        have : i0 ≠ 45 := by rintro rfl; exact absurd hi0.1 (by decide)
        simp [this]
      simp only [Bool.false_eq_true, if_false, List.nil_append, List.cons_append, signP, this]
  have hsl : s.length ≤ 400 := hlen
  have hparts : s.length = (if neg then 1 else 0) + (I.length + ((if pt then F.length + 1 else 0) + X.length)) := by
    rw [← hS]
    cases neg <;> cases pt <;> simp <;> omega
  have hFl : F.length ≤ 400 := by
    cases pt with
    | true => simp at hparts; omega
    | false => rw [hF1 rfl]; simp
  have hIl : I.length ≤ 400 := by omega
  have hXl : X.length ≤ 400 := by omega
  rw [sign_ok _ _ (by omega), hs1]
  simp only
  have hPh : ∀ b t, (if pt then 46 :: F else []) ++ X = b :: t → ¬ isDig b := by
    intro b t hb
    cases pt with
    | true => simp at hb; rw [← hb.1]; unfold isDig; decide
    | false => exact (hXh b t (by simpa using hb)).1
  have hl2 : (I ++ ((if pt then 46 :: F else []) ++ X)).length ≤ 4000000000 := by
    have : (I ++ ((if pt then 46 :: F else []) ++ X)).length = I.length + ((if pt then F.length + 1 else 0) + X.length) := by cases pt <;> simp <;> omega
    omega
  rw [digits_ok I _ hI hPh hl2]
  have hne : (I == ([] : Str)) = false := by rw [beq_eq_false_iff_ne]; exact hI0
  rw [dfalse (show ¬ (s.length : Int) > 400 by omega), cond_false, hne, cond_false]
  have q48 : (((I.getD 0 0).toNat : Int) == 48) = decide ((I.getD 0 0).toNat = 48) := eqI _ 48
  -- the rest, behind the first test
  have drop1 : ∀ x : Option R, (bif (decide ((I.length : Int) > 1)) then (chk (decide ((0 : Int) < I.length)) (bif (((I.getD 0 0).toNat : Int) == 48) then (k ⟨0, 0⟩ false) else x)) else x) = x := by
    intro x
    by_cases h : 1 < I.length
    · rw [dtrue (show (I.length : Int) > 1 by omega), cond_true, chk_pos (dtrue (by omega)), q48, dfalse (hI1 h), cond_false]
    · rw [dfalse (show ¬ (I.length : Int) > 1 by omega), cond_false]
  rw [drop1]
  generalize hA : I ++ F = all at *
  have hall : all.length ≤ 800 := by rw [← hA, List.length_append]; omega
  have htl : (trimL all [48]).length ≤ all.length := drop_le _ _
  have lone : ([48] : Str).length = 1 := rfl
  have hc : (([48] : Str) ++ (trimR (trimL all ([48] : Str)) ([48] : Str))) = 48 :: trimR (trimL all [48]) [48] := rfl
  have hbe : ((([] : Str) == ([] : Str))) = true := rfl
  have hs2 : decide ((48 :: trimR (trimL all [48]) [48] : Str).length ≤ 281474976710656) = true := dtrue (by simp only [List.length_cons]; omega)
  have w0 : IntKind.i64.wrap (((trimL all [48]).length : Int) - ((trimR (trimL all [48]) [48]).length : Int)) = ((trimL all [48]).length : Int) - ((trimR (trimL all [48]) [48]).length : Int) := wrap_id (by omega) (by omega)
  have q1 : decide (1 + (trimR (trimL all [48]) [48]).length ≤ 9223372036854775807) = true := dtrue (by omega)
  have q2 : decide (((trimR (trimL all [48]) [48]).length : Int) > 18) = false := dfalse (by omega)
  have q3 : (isAsc ([48] : Str) && decide (([48] : Str).length < 4294967281)) = true := rfl
  have qn : (((if neg then 45 else 0 : Nat) : Int) != 0) = neg := by cases neg <;> rfl
  have sX : signP [101, 69] X = match X with | [] => (0, []) | b :: Y => (b.toNat, Y) := by
    rcases hX with ⟨rfl, _⟩ | ⟨b, Y, rfl, hb, _⟩
    · rfl
    · rcases hb with rfl | rfl <;> rfl
  cases pt with
  | false =>
    have hFe := hF1 rfl
    subst hFe
    rw [List.append_nil] at hA
    subst hA
    have s46 : signP [46] X = (0, X) := by
      rcases hX with ⟨rfl, _⟩ | ⟨b, Y, rfl, hb, _⟩
      · rfl
      · rcases hb with rfl | rfl <;> rfl
    simp only [Bool.false_eq_true, if_false, List.nil_append]
    rw [sign_ok _ _ (by omega), s46]
    have z0 : (((0 : Nat) : Int) != 0) = false := rfl
    simp only [z0, cond_false]
    rw [sign_ok _ _ (by omega), sX]
    rcases hX with ⟨rfl, rfl⟩ | ⟨b, Y, rfl, hb, hE⟩
    · simp only [z0, cond_false, q3, chk_pos rfl, hbe, Bool.not_true, q2, q1, hc, hs2, Bool.cond_self, w0, qn]
      rw [wrap_id (n := 0 + (((trimL I [48]).length : Int) - ((trimR (trimL I [48]) [48]).length : Int))) (by omega) (by omega)]
      have e0 : -((([] : Str).length : Nat) : Int) + 0 = 0 := rfl
      rw [e0]
      cases neg <;> rfl
    · have zb : ((b.toNat : Int) != 0) = true := by rcases hb with rfl | rfl <;> rfl
      simp only [zb, cond_true, hE, Bool.not_true, cond_false, q3, chk_pos rfl, hbe, q2, q1, hc, hs2, Bool.cond_self, w0, qn]
      rw [wrap_id (n := 0 + ev) (by omega) (by omega), wrap_id (n := 0 + ev + (((trimL I [48]).length : Int) - ((trimR (trimL I [48]) [48]).length : Int))) (by omega) (by omega)]
      have e0 : -((([] : Str).length : Nat) : Int) + ev = 0 + ev := rfl
      rw [e0]
      cases neg <;> rfl
  | true =>
    have hFe := hF0 rfl
    simp only [if_true, List.cons_append, List.nil_append]
    have s46 : signP [46] (46 :: (F ++ X)) = (46, F ++ X) := rfl
    have lFX : (F ++ X).length = F.length + X.length := List.length_append
    rw [sign_ok _ _ (by simp only [List.length_cons]; omega), s46]
    have z46 : (((46 : Nat) : Int) != 0) = true := rfl
    have z0 : (((0 : Nat) : Int) != 0) = false := rfl
    simp only [z46, cond_true]
    rw [digits_ok F X hF (fun b t hb => (hXh b t hb).1) (by omega)]
    have hFn : (F == ([] : Str)) = false := by rw [beq_eq_false_iff_ne]; exact hFe
    rw [hFn, cond_false, chk_pos (dtrue (by omega)), hA, wrap_id (n := 0 - (F.length : Int)) (by omega) (by omega)]
    rw [sign_ok _ _ (by omega), sX]
    rcases hX with ⟨rfl, rfl⟩ | ⟨b, Y, rfl, hb, hE⟩
    · simp only [z0, cond_false, q3, chk_pos rfl, hbe, Bool.not_true, q2, q1, hc, hs2, Bool.cond_self, w0, qn]
      rw [wrap_id (n := 0 - (F.length : Int) + (((trimL all [48]).length : Int) - ((trimR (trimL all [48]) [48]).length : Int))) (by omega) (by omega)]
      have e0 : -(F.length : Int) + 0 = 0 - (F.length : Int) := by omega
      rw [e0]
      cases neg <;> rfl
    · have zb : ((b.toNat : Int) != 0) = true := by rcases hb with rfl | rfl <;> rfl
      simp only [zb, cond_true, hE, Bool.not_true, cond_false, q3, chk_pos rfl, hbe, q2, q1, hc, hs2, Bool.cond_self, w0, qn]
      rw [wrap_id (n := 0 - (F.length : Int) + ev) (by omega) (by omega), wrap_id (n := 0 - (F.length : Int) + ev + (((trimL all [48]).length : Int) - ((trimR (trimL all [48]) [48]).length : Int))) (by omega) (by omega)]
      have e0 : -(F.length : Int) + ev = 0 - (F.length : Int) + ev := by omega
      rw [e0]
      cases neg <;> rfl
theorem uint_app : ∀ (l r : Str) (acc v : Nat), parseUint10 acc l = .ok v → parseUint10 acc (l ++ r) = parseUint10 v r
  | [], r, acc, v, h => by
    simp only [parseUint10] at h
    injection h with h
    subst h
    rfl
  | c :: l, r, acc, v, h => by
    simp only [parseUint10, List.cons_append] at h ⊢
    split at h
    · rename_i h1
      rw [if_pos h1]
      split at h
      · cases h
      · rename_i h2
        rw [if_neg h2]
        split at h
        · cases h
        · rename_i h3
          rw [if_neg h3]
          exact uint_app l r _ v h
    · cases h
theorem uint_dec (u : Nat) (hu : u < 1000000000000000000) : parseUint10 0 (decDigits u) = .ok u := by
  induction u using Nat.strongRecOn with
  | _ u ih =>
    by_cases h : u < 10
    · rw [decDigits, dif_pos h]
      simp only [parseUint10, u8_nat (48 + u) (by omega)]
      rw [if_pos (by omega), if_neg (by omega), if_neg (by omega)]
      congr 1
      omega
    · rw [decDigits, dif_neg h, uint_app _ _ _ _ (ih (u / 10) (by omega) (by omega))]
      simp only [parseUint10, u8_nat (48 + u % 10) (by omega)]
      rw [if_pos (by omega), if_neg (by omega), if_neg (by omega)]
      congr 1
      omega
theorem atoi_dec (u : Nat) (hu : u < 1000000000000000000) : atoiVal (48 :: decDigits u) = (u : Int) := by
  have h1 : parseMag (48 :: decDigits u) = .ok u := by
    unfold parseMag
    rw [if_neg (by simp)]
    have := uint_dec u hu
    simp only [parseUint10]
    exact this
  have h2 : atoiAll (48 :: decDigits u) = .ok (u : Int) := by
    unfold atoiAll
    simp only
    have e : (if (48 : UInt8).toNat = 43 ∨ (48 : UInt8).toNat = 45 then decDigits u else 48 :: decDigits u) = 48 :: decDigits u := if_neg (by decide)
    rw [e, h1]
    simp only
    rw [if_neg (by omega), if_neg (fun h => absurd h.1 (by decide)), if_neg (by decide)]
  unfold atoiVal
  rw [h2]
theorem trimL_z (n : Nat) (r : Str) (hr : ∀ b t, r = b :: t → b ≠ 48) : trimL (zeros n ++ r) [48] = r := by
  unfold trimL
  rw [dropW_app _ _ _ (fun x hx => by have := List.eq_of_mem_replicate hx; subst this; rfl)]
  exact dropW_head _ _ fun b t hb => by simp [hr b t hb]
theorem trimR_z (l : Str) (n : Nat) (b : UInt8) (hb : b ≠ 48) : trimR (l ++ [b] ++ zeros n) [48] = l ++ [b] := by
  unfold trimR
  rw [List.reverse_append, List.reverse_append]
  have e : (zeros n).reverse = zeros n := List.reverse_replicate
  rw [e, dropW_app _ _ _ (fun x hx => by have := List.eq_of_mem_replicate hx; subst this; rfl)]
  have : List.dropWhile (fun x => ([48] : Str).contains x) (([b] : Str).reverse ++ l.reverse) = [b] ++ l.reverse := dropW_head _ _ fun c t hc => by
    have : b = c := by
      have := congrArg List.head? hc
      simpa using this
    subst this
    simp [hb]
  rw [this, List.reverse_append, List.reverse_reverse]
  rfl
theorem trims {u : Nat} (hu : u % 10 ≠ 0) (a b : Nat) : trimL (zeros a ++ (decDigits u ++ zeros b)) [48] = decDigits u ++ zeros b ∧ trimR (decDigits u ++ zeros b) [48] = decDigits u := by
  obtain ⟨x, t, e, hx⟩ := dec_first u (by omega)
  obtain ⟨l, hl⟩ := dec_last u
  constructor
  · apply trimL_z
    intro c t' hc
    rw [e] at hc
    have : x = c := by
      have := congrArg List.head? hc
      simpa using this
    subst this
    rintro rfl
    exact hx rfl
  · rw [hl]
    apply trimR_z
    intro h
    have := congrArg UInt8.toNat h
    rw [u8_nat _ (by omega)] at this
    have e48 : (48 : UInt8).toNat = 48 := rfl
    omega
theorem prt_parts (d : Dcm) (hd : Fm d) (h0 : d.mant ≠ 0) : ∃ (I F : Str) (pt : Bool) (a b : Nat), prt d = (if decide (d.mant < 0) then [45] else []) ++ (I ++ (if pt then 46 :: F else [])) ∧
    I ++ F = zeros a ++ (decDigits d.mant.natAbs ++ zeros b) ∧ I ≠ [] ∧ (1 < I.length → (I.getD 0 0).toNat ≠ 48) ∧ (pt = true → F ≠ []) ∧ (pt = false → F = []) ∧ (F.length : Int) = (b : Int) - d.exp ∧ I.length + F.length ≤ 40 ∧ (∀ x ∈ I, isDig x) ∧ (∀ x ∈ F, isDig x) := by
  have bd := hd.bounds
  have hall := dec_all d.mant.natAbs
  have hlen : (decDigits d.mant.natAbs).length ≤ 16 := by rw [decDigits_length]; exact digits16 (by omega)
  have hpos : 1 ≤ (decDigits d.mant.natAbs).length := by rw [decDigits_length]; exact nDigits_pos _
  obtain ⟨x0, t0, hfirst, hx0⟩ := dec_first d.mant.natAbs (by omega)
  have hsg : (if d.mant < 0 then ([45] : Str) else []) = if decide (d.mant < 0) then [45] else [] := by by_cases h : d.mant < 0 <;> simp [h]
  unfold prt
  rw [hsg]
  generalize decDigits d.mant.natAbs = L at *
  by_cases he : 0 ≤ d.exp
  · refine ⟨L ++ zeros d.exp.toNat, [], false, 0, d.exp.toNat, ?_, by simp [zeros], ?_, fun _ => ?_, by simp, by simp, by simp; omega, ?_, ?_, by simp⟩
    · unfold body; rw [if_pos he]; simp
    · rw [hfirst]; simp
    · rw [hfirst]; exact hx0
    · rw [List.length_append, zeros_len, List.length_nil]; omega
    · intro x hx
      rcases List.mem_append.1 hx with hx | hx
      · exact hall x hx
      · have := List.eq_of_mem_replicate hx
        subst this; unfold isDig; decide
  · have hz : ∃ z : Nat, (max 0 (1 - d.exp - (L.length : Int))).toNat = z := ⟨_, rfl⟩
    obtain ⟨z, hz⟩ := hz
    have tl : (zeros z ++ L).length = z + L.length := by rw [List.length_append, zeros_len]
    have hat : (((zeros z ++ L).length : Int) + d.exp).toNat = (zeros z ++ L).length - d.exp.natAbs := by omega
    have h1 : d.exp.natAbs + 1 ≤ (zeros z ++ L).length := by omega
    have tdig : ∀ x ∈ zeros z ++ L, isDig x := by
      intro x hx
      rcases List.mem_append.1 hx with hx | hx
      · have := List.eq_of_mem_replicate hx
        subst this; unfold isDig; decide
      · exact hall x hx
    have tfirst : z = 0 → ((zeros z ++ L).getD 0 0).toNat ≠ 48 := by
      rintro rfl
      rw [hfirst]
      exact hx0
    refine ⟨(zeros z ++ L).take ((zeros z ++ L).length - d.exp.natAbs), (zeros z ++ L).drop ((zeros z ++ L).length - d.exp.natAbs), true, z, 0, ?_, ?_, ?_, ?_, fun _ => ?_, (fun h => by cases h), ?_, ?_, ?_, ?_⟩
    · unfold body
      rw [if_neg he]
      simp only [hz, hat, if_true]
      simp
    · rw [List.take_append_drop]; simp [zeros]
    · intro e
      have := congrArg List.length e
      rw [List.length_take, List.length_nil] at this
      omega
    · intro hI
      rw [List.length_take] at hI
      have e : ((zeros z ++ L).take ((zeros z ++ L).length - d.exp.natAbs)).getD 0 0 = (zeros z ++ L).getD 0 0 := by
        have := (getD_app_lt (s := (zeros z ++ L).take ((zeros z ++ L).length - d.exp.natAbs)) (t := (zeros z ++ L).drop ((zeros z ++ L).length - d.exp.natAbs)) (i := 0) (by rw [List.length_take]; omega)).symm
        rw [List.take_append_drop] at this
        exact this
      rw [e]
      exact tfirst (by omega)
    · intro e
      have := congrArg List.length e
      rw [List.length_drop, List.length_nil] at this
      omega
    · rw [List.length_drop]; omega
    · rw [List.length_take, List.length_drop]; omega
    · intro x hx; exact tdig x (List.mem_of_mem_take hx)
    · intro x hx; exact tdig x (List.mem_of_mem_drop hx)
theorem parse_zero {R : Type} (k : Dcm → Bool → Option R) : q61 [48] k = k ⟨0, 0⟩ true := by kernel_rfl
theorem prt_zero : prt ⟨0, 0⟩ = [48] := by
  show [] ++ body (decDigits 0) 0 = [48]
  rw [decDigits_one (by omega)]
  rfl
theorem parse_prt {R : Type} {d : Dcm} (hd : Fm d) (h0 : d.mant ≠ 0) (X : Str) (ev : Int) (hX : (X = [] ∧ ev = 0) ∨ ∃ b Y, X = b :: Y ∧ (b = 101 ∨ b = 69) ∧ ∀ f : Int → Bool → Str → Option R, q30 Y f = f ev true [])
    (hev : -1000000 ≤ ev ∧ ev ≤ 1000000) (hXl : X.length ≤ 100) (k : Dcm → Bool → Option R) : q61 (prt d ++ X) k = q65 d.mant (d.exp + ev) k := by
  have bd := hd.bounds
  obtain ⟨I, F, pt, a, b, e1, e2, i0, i1, f0, f1, fl, il, iD, fD⟩ := prt_parts d hd h0
  obtain ⟨t1, t2⟩ := trims (u := d.mant.natAbs) (tmod_abs (hd.nz h0)) a b
  have hlen : (decDigits d.mant.natAbs).length ≤ 16 := by rw [decDigits_length]; exact digits16 (by omega)
  have key := parse_ok (R := R) (decide (d.mant < 0)) I F X pt ev iD i0 i1 fD f0 f1 hX hev (by
    cases hd2 : decide (d.mant < 0) <;> cases pt <;> simp <;> omega) (by rw [e2, t1, t2]; omega) k
  have e3 : prt d ++ X = (if decide (d.mant < 0) then [45] else []) ++ (I ++ ((if pt then 46 :: F else []) ++ X)) := by rw [e1]; simp only [List.append_assoc]
  rw [e3, key, e2, t1, t2, atoi_dec _ (by omega)]
  have e4 : (if decide (d.mant < 0) = true then IntKind.i64.wrap (0 - (d.mant.natAbs : Int)) else (d.mant.natAbs : Int)) = d.mant := by
    by_cases h : d.mant < 0
    · rw [if_pos (by rw [dtrue h]), wrap_id (by omega) (by omega)]; omega
    · rw [if_neg (by rw [dfalse h]; simp)]; omega
  have e5 : -(F.length : Int) + ev + (((decDigits d.mant.natAbs ++ zeros b).length : Int) - ((decDigits d.mant.natAbs).length : Int)) = d.exp + ev := by
    rw [List.length_append, zeros_len]
    omega
  rw [e4, e5]
theorem make_same {R : Type} {d : Dcm} (hd : Fm d) (h0 : d.mant ≠ 0) (k : Dcm → Bool → Option R) : q65 d.mant d.exp k = k d true := by
  have bd := hd.bounds
  obtain ⟨r, hr, hm⟩ := make_any (R := R) d.mant d.exp (by unfold I64; omega) (by omega) (by omega)
  have e5 : d.mant = d.mant * 10 ^ 0 := by simp
  rw [e5] at hr
  rw [hm, made_same hd h0 (j := 0) (x := d.exp) (by omega) hr]
abbrev isD (b : UInt8) : Bool := digS.contains b
theorem isD_ok (b : UInt8) : isD b = decide (48 ≤ b.toNat ∧ b.toNat ≤ 57) := digS_ok b
abbrev takeD (s : Str) : Str := s.takeWhile isD
abbrev dropD (s : Str) : Str := s.dropWhile isD
theorem take_dig (s : Str) : ∀ x ∈ takeD s, isDig x := fun x hx => by
  have h := List.all_takeWhile (l := s) (p := isD)
  have := List.all_eq_true.1 h x hx
  rw [isD_ok] at this
  exact of_decide_eq_true (p := 48 ≤ x.toNat ∧ x.toNat ≤ 57) this
theorem drop_dig (s : Str) : ∀ b t, dropD s = b :: t → ¬ isDig b := fun b t h hb => by
  have h2 : isD b = false := by
    have := List.head?_dropWhile_not isD s
    have e : s.dropWhile isD = b :: t := h
    rw [e] at this
    simpa using this
  rw [isD_ok, dtrue (p := 48 ≤ b.toNat ∧ b.toNat ≤ 57) hb] at h2
  cases h2
theorem take_le (s : Str) : (takeD s).length ≤ s.length := by
  have := congrArg List.length (List.takeWhile_append_dropWhile (p := isD) (l := s))
  rw [List.length_append] at this
  unfold takeD
  omega
theorem dropD_le (s : Str) : (dropD s).length ≤ s.length := drop_le _ _
theorem digits_any {R : Type} (s : Str) (hl : s.length ≤ 4000000000) (k : Str → Str → Option R) : q32 s k = k (takeD s) (dropD s) := by
  have e : takeD s ++ dropD s = s := List.takeWhile_append_dropWhile
  have h := digits_ok (R := R) (takeD s) (dropD s) (take_dig s) (drop_dig s) (by rw [e]; exact hl) k
  rw [e] at h
  exact h
theorem signP_le (g s : Str) : (signP g s).2.length ≤ s.length := by
  unfold signP
  cases s with
  | nil => simp
  | cons b t => simp only; split <;> simp
def valD : Str → Nat → Nat
  | [], v => v
  | b :: s, v => valD s (10 * v + (b.toNat - 48))
theorem valD_app : ∀ (a b : Str) (v : Nat), valD (a ++ b) v = valD b (valD a v)
  | [], _, _ => rfl
  | x :: a, b, v => valD_app a b _
theorem valD_ge : ∀ (s : Str) (v : Nat), v * 10 ^ s.length ≤ valD s v
  | [], v => by simp [valD]
  | b :: s, v => by
    have := valD_ge s (10 * v + (b.toNat - 48))
    have h2 : 10 * v * 10 ^ s.length ≤ (10 * v + (b.toNat - 48)) * 10 ^ s.length := Nat.mul_le_mul_right _ (by omega)
    have e : v * 10 ^ (b :: s).length = 10 * v * 10 ^ s.length := by rw [List.length_cons, Nat.pow_succ, Nat.mul_comm 10, Nat.mul_assoc, Nat.mul_comm 10]
    simp only [valD]
    omega
theorem valD_self (s : Str) (v : Nat) : v ≤ valD s v := Nat.le_trans (Nat.le_mul_of_pos_right _ (Nat.pos_of_ne_zero (by simp))) (valD_ge s v)
theorem valD_lt : ∀ (s : Str) (v : Nat), (∀ x ∈ s, isDig x) → valD s v < (v + 1) * 10 ^ s.length
  | [], v, _ => by simp [valD]
  | b :: s, v, h => by
    have hb := h b (by simp)
    unfold isDig at hb
    have := valD_lt s (10 * v + (b.toNat - 48)) fun x hx => h x (by simp [hx])
    have h2 : (10 * v + (b.toNat - 48) + 1) * 10 ^ s.length ≤ ((v + 1) * 10) * 10 ^ s.length := Nat.mul_le_mul_right _ (by omega)
    have e : (v + 1) * 10 ^ (b :: s).length = ((v + 1) * 10) * 10 ^ s.length := by rw [List.length_cons, Nat.pow_succ, Nat.mul_assoc, Nat.mul_comm 10]
    simp only [valD]
    omega
theorem uint_dig : ∀ (D : Str) (acc : Nat), (∀ x ∈ D, isDig x) →
    (valD D acc < 18446744073709551616 → parseUint10 acc D = .ok (valD D acc)) ∧ (acc < 18446744073709551616 → 18446744073709551616 ≤ valD D acc → parseUint10 acc D = .range)
  | [], acc, _ => ⟨fun _ => rfl, fun h1 h2 => by simp only [valD] at h2; omega⟩
  | b :: D, acc, h => by
    have hb := h b (by simp)
    unfold isDig at hb
    obtain ⟨i1, i2⟩ := uint_dig D (10 * acc + (b.toNat - 48)) fun x hx => h x (by simp [hx])
    have hs := valD_self D (10 * acc + (b.toNat - 48))
    have e : acc * 10 + (b.toNat - 48) = 10 * acc + (b.toNat - 48) := by omega
    simp only [valD, parseUint10]
    rw [if_pos hb, e]
    refine ⟨fun h1 => ?_, fun h1 h2 => ?_⟩
    · rw [if_neg (by omega), if_neg (by omega)]
      exact i1 h1
    · by_cases g1 : 1844674407370955162 ≤ acc
      · rw [if_pos g1]
      · rw [if_neg g1]
        by_cases g2 : 18446744073709551616 ≤ 10 * acc + (b.toNat - 48)
        · rw [if_pos g2]
        · rw [if_neg g2]
          exact i2 (by omega) h2
theorem atoi_dig (D : Str) (hD : ∀ x ∈ D, isDig x) (h0 : D ≠ []) :
    (valD D 0 < 9223372036854775808 → atoiAll D = .ok (valD D 0 : Int)) ∧ (9223372036854775808 ≤ valD D 0 → atoiAll D = .range) := by
  obtain ⟨i1, i2⟩ := uint_dig D 0 hD
  cases D with
  | nil => exact (h0 rfl).elim
  | cons b D =>
    have hb := hD b (by simp)
    unfold isDig at hb
    have e : (if b.toNat = 43 ∨ b.toNat = 45 then D else b :: D) = b :: D := if_neg (by omega)
    have m : parseMag (b :: D) = parseUint10 0 (b :: D) := by unfold parseMag; rw [if_neg (by simp)]
    unfold atoiAll
    simp only
    rw [e, m]
    refine ⟨fun h => ?_, fun h => ?_⟩
    · rw [i1 (by omega)]
      simp only
      rw [if_neg (by omega), if_neg (fun h2 => absurd h2.1 (by omega)), if_neg (by omega)]
    · by_cases h2 : valD (b :: D) 0 < 18446744073709551616
      · rw [i1 h2]
        simp only
        rw [if_pos ⟨by omega, h⟩]
      · rw [i2 (by omega) (by omega)]
def expP (X : Str) : Int × Bool × Str :=
  let q := signP [43, 45] X
  let v : Int := min (valD (takeD q.2) 0 : Int) 1000000
  (if q.1 = 45 then -v else v, !(takeD q.2 == []), dropD q.2)
theorem exp_any {R : Type} (X : Str) (hl : X.length ≤ 4000000000) (k : Int → Bool → Str → Option R) : q30 X k = k (expP X).1 (expP X).2.1 (expP X).2.2 := by
  have e : q30 X k = q30_X q38 q32 X k := rfl
  rw [e]
  unfold q30_X
  have h1 := signP_le [43, 45] X
  rw [sign_ok _ _ hl]
  unfold expP
  simp only
  generalize signP [43, 45] X = q at *
  rw [digits_any _ (by omega)]
  have h2 := take_le q.2
  have hD := take_dig q.2
  generalize takeD q.2 = D at *
  generalize dropD q.2 = r at *
  have q45 : ((q.1 : Int) == 45) = decide (q.1 = 45) := eqI _ 45
  rw [chk_pos (dtrue (by omega)), q45]
  by_cases h0 : D = []
  · subst h0
    have a1 : atoiOk [] = false := rfl
    have a2 : atoiVal [] = 0 := rfl
    rw [a1, a2]
    simp only [cond_false, valD]
    by_cases hq : q.1 = 45
    · rw [dtrue hq, if_pos hq]; rfl
    · rw [dfalse hq, if_neg hq]; rfl
  · have hne : (D == ([] : Str)) = false := by rw [beq_eq_false_iff_ne]; exact h0
    obtain ⟨i1, i2⟩ := atoi_dig D hD h0
    rw [hne]
    simp only [Bool.not_false, cond_true]
    by_cases hv : valD D 0 < 9223372036854775808
    · have a1 : atoiOk D = true := by unfold atoiOk; rw [i1 hv]
      have a2 : atoiVal D = (valD D 0 : Int) := by unfold atoiVal; rw [i1 hv]
      rw [a1, a2, cond_true]
      by_cases hb : (valD D 0 : Int) > 1000000
      · rw [dtrue hb, cond_true, Int.min_eq_right (by omega)]
        by_cases hq : q.1 = 45
        · rw [dtrue hq, if_pos hq]; rfl
        · rw [dfalse hq, if_neg hq]; rfl
      · rw [dfalse hb, cond_false, Int.min_eq_left (by omega), wrap_id (by omega) (by omega)]
        by_cases hq : q.1 = 45
        · rw [dtrue hq, if_pos hq, cond_true]; congr 1; omega
        · rw [dfalse hq, if_neg hq, cond_false]
    · have a1 : atoiOk D = false := by unfold atoiOk; rw [i2 (by omega)]
      rw [a1, cond_false, Int.min_eq_right (by omega)]
      by_cases hq : q.1 = 45
      · rw [dtrue hq, if_pos hq]; rfl
      · rw [dfalse hq, if_neg hq]; rfl
theorem trimL_head (a : Str) : ∀ b t, trimL a [48] = b :: t → b ≠ 48 := fun b t h hb => by
  have h2 := List.head?_dropWhile_not (([48] : Str).contains ·) a
  have e : a.dropWhile (([48] : Str).contains ·) = b :: t := h
  rw [e] at h2
  subst hb
  exact absurd (show (([48] : Str).contains 48) = false from h2) (by decide)
theorem trimL_sub (a : Str) : ∀ x ∈ trimL a [48], x ∈ a := fun x hx => (List.dropWhile_sublist _).subset hx
theorem trimR_cases (a : Str) : trimR a [48] = [] ∨ ∃ l b, trimR a [48] = l ++ [b] ∧ b ≠ 48 := by
  unfold trimR
  have h2 := List.head?_dropWhile_not (([48] : Str).contains ·) a.reverse
  cases h : a.reverse.dropWhile (([48] : Str).contains ·) with
  | nil => exact .inl rfl
  | cons b t =>
    rw [h] at h2
    refine .inr ⟨t.reverse, b, by simp, fun hb => ?_⟩
    subst hb
    exact absurd (show (([48] : Str).contains 48) = false from h2) (by decide)
theorem trimR_pre (a : Str) : ∃ n, a = trimR a [48] ++ zeros n := by
  have h := List.takeWhile_append_dropWhile (p := (([48] : Str).contains ·)) (l := a.reverse)
  have h2 := congrArg List.reverse h
  rw [List.reverse_append, List.reverse_reverse] at h2
  refine ⟨(a.reverse.takeWhile (([48] : Str).contains ·)).length, ?_⟩
  have hz : (a.reverse.takeWhile (([48] : Str).contains ·)).reverse = zeros (a.reverse.takeWhile (([48] : Str).contains ·)).length := by
    unfold zeros
    rw [List.eq_replicate_iff]
    refine ⟨List.length_reverse, fun x hx => ?_⟩
    have h3 := List.all_takeWhile (l := a.reverse) (p := (([48] : Str).contains ·))
    have := List.all_eq_true.1 h3 x (List.mem_reverse.1 hx)
    simpa using this
  rw [← hz]
  exact h2.symm
def finD (neg : Bool) (all : Str) (x : Int) : Dcm × Bool :=
  if trimR (trimL all [48]) [48] = [] then (⟨0, 0⟩, true)
  else mkD (if neg then -(valD (trimR (trimL all [48]) [48]) 0 : Int) else (valD (trimR (trimL all [48]) [48]) 0 : Int)) (x + (((trimL all [48]).length : Int) - ((trimR (trimL all [48]) [48]).length : Int)))
theorem make_min {R : Type} (m x : Int) (k : Dcm → Bool → Option R) : q65 m x k = q65 m (min x 1000000) k := by
  have e : ∀ x, q65 m x k = q65_X q52 q65_4_0_L m x k := fun _ => rfl
  rw [e, e]
  unfold q65_X
  have : min (min x 1000000) 1000000 = min x 1000000 := by omega
  rw [this]
theorem mkD_min (u x : Int) : mkD u (min x 1000000) = mkD u x := by
  unfold mkD
  by_cases h : x ≤ 1000000
  · rw [Int.min_eq_left h]
  · rw [if_neg (by omega), if_neg (by omega)]
theorem make_unit {R : Type} (u x : Int) (hu : Int.tmod u 10 ≠ 0) (hb : I64 u) (hx : -9223372036854775808 ≤ x) (k : Dcm → Bool → Option R) : q65 u x k = k (mkD u x).1 (mkD u x).2 := by
  rw [make_min, ← mkD_min u x]
  have := make_ok (R := R) u 0 (min x 1000000) hu (by simpa using hb) (by omega) (by omega) k
  simpa using this
theorem short_facts (all : Str) (h : ∀ x ∈ all, isDig x) (h0 : trimR (trimL all [48]) [48] ≠ []) :
    (∀ x ∈ trimR (trimL all [48]) [48], isDig x) ∧ valD (trimR (trimL all [48]) [48]) 0 % 10 ≠ 0 ∧ 10 ^ ((trimR (trimL all [48]) [48]).length - 1) ≤ valD (trimR (trimL all [48]) [48]) 0 := by
  obtain ⟨n, hn⟩ := trimR_pre (trimL all [48])
  have hd : ∀ x ∈ trimR (trimL all [48]) [48], isDig x := fun x hx => h x (trimL_sub _ _ (by rw [hn]; simp [hx]))
  refine ⟨hd, ?_, ?_⟩
  · rcases trimR_cases (trimL all [48]) with e | ⟨l, b, e, hb⟩
    · exact (h0 e).elim
    · have hbd := hd b (by rw [e]; simp)
      rw [e, valD_app]
      simp only [valD]
      unfold isDig at hbd
      have : b.toNat ≠ 48 := fun h => hb (UInt8.toNat_inj.1 h)
      omega
  · cases e : trimR (trimL all [48]) [48] with
    | nil => exact (h0 e).elim
    | cons b t =>
      have hb : b ≠ 48 := trimL_head all b (t ++ zeros n) (by rw [hn, e]; rfl)
      have hbd := hd b (by rw [e]; simp)
      unfold isDig at hbd
      have h48 : b.toNat ≠ 48 := fun h => hb (UInt8.toNat_inj.1 h)
      have := valD_ge t (10 * 0 + (b.toNat - 48))
      have h2 : 1 * 10 ^ t.length ≤ (10 * 0 + (b.toNat - 48)) * 10 ^ t.length := Nat.mul_le_mul_right _ (by omega)
      simp only [valD, List.length_cons, Nat.add_sub_cancel]
      omega
theorem mkD_far {u : Int} (x : Int) (h : 1000000000000000 < u.natAbs) : mkD u x = (⟨0, 0⟩, false) := by
  unfold mkD
  rw [if_neg (by omega)]
theorem fin_ok {R : Type} (y2 : Int) (z11 : Str) (z19 : Int) (z20 : Str) (h : ∀ x ∈ z11, isDig x) (hl : z11.length ≤ 1000) (hx : -2000000 ≤ z19 ∧ z19 ≤ 2000000) (k0 : Dcm → Bool → Option R) :
    (chk (isAsc ([48] : Str) && decide (([48] : Str).length < 4294967281)) (chk (isAsc ([48] : Str) && decide (([48] : Str).length < 4294967281)) (bif (!(z20 == ([] : Str))) then (k0 (⟨0, 0⟩ : Dcm) false) else (bif (decide (((trimR (trimL z11 ([48] : Str)) ([48] : Str)).length : Int) > (18 : Int))) then (k0 (⟨0, 0⟩ : Dcm) false) else (chk (decide (1 + (trimR (trimL z11 ([48] : Str)) ([48] : Str)).length ≤ 9223372036854775807)) (chk (decide ((([48] : Str) ++ (trimR (trimL z11 ([48] : Str)) ([48] : Str))).length ≤ 281474976710656)) (bif atoiOk (([48] : Str) ++ (trimR (trimL z11 ([48] : Str)) ([48] : Str))) then (bif (y2 != 0) then (q65 (IntKind.i64.wrap (0 - (atoiVal (([48] : Str) ++ (trimR (trimL z11 ([48] : Str)) ([48] : Str)))))) (IntKind.i64.wrap (z19 + (IntKind.i64.wrap (((trimL z11 ([48] : Str)).length : Int) - ((trimR (trimL z11 ([48] : Str)) ([48] : Str)).length : Int))))) (fun y25 y26 => k0 y25 y26)) else (q65 (atoiVal (([48] : Str) ++ (trimR (trimL z11 ([48] : Str)) ([48] : Str)))) (IntKind.i64.wrap (z19 + (IntKind.i64.wrap (((trimL z11 ([48] : Str)).length : Int) - ((trimR (trimL z11 ([48] : Str)) ([48] : Str)).length : Int))))) (fun y27 y28 => k0 y27 y28))) else (bif (y2 != 0) then (q65 (IntKind.i64.wrap (0 - (atoiVal (([48] : Str) ++ (trimR (trimL z11 ([48] : Str)) ([48] : Str)))))) (IntKind.i64.wrap (z19 + (IntKind.i64.wrap (((trimL z11 ([48] : Str)).length : Int) - ((trimR (trimL z11 ([48] : Str)) ([48] : Str)).length : Int))))) (fun y25 y26 => k0 y25 y26)) else (q65 (atoiVal (([48] : Str) ++ (trimR (trimL z11 ([48] : Str)) ([48] : Str)))) (IntKind.i64.wrap (z19 + (IntKind.i64.wrap (((trimL z11 ([48] : Str)).length : Int) - ((trimR (trimL z11 ([48] : Str)) ([48] : Str)).length : Int))))) (fun y27 y28 => k0 y27 y28)))))))))) =
    if z20 = [] then k0 (finD (y2 != 0) z11 z19).1 (finD (y2 != 0) z11 z19).2 else k0 ⟨0, 0⟩ false := by
  have q3 : (isAsc ([48] : Str) && decide (([48] : Str).length < 4294967281)) = true := rfl
  have htl : (trimL z11 [48]).length ≤ z11.length := drop_le _ _
  obtain ⟨n, hn⟩ := trimR_pre (trimL z11 [48])
  have htr : (trimL z11 [48]).length = (trimR (trimL z11 [48]) [48]).length + n := by have := congrArg List.length hn; rw [List.length_append, zeros_len] at this; exact this
  rw [q3, chk_pos rfl, chk_pos rfl]
  by_cases hz : z20 = []
  · subst hz
    have hbe : ((([] : Str) == ([] : Str))) = true := rfl
    rw [hbe, if_pos rfl]
    simp only [Bool.not_true, cond_false]
    have w0 : IntKind.i64.wrap (((trimL z11 [48]).length : Int) - ((trimR (trimL z11 [48]) [48]).length : Int)) = ((trimL z11 [48]).length : Int) - ((trimR (trimL z11 [48]) [48]).length : Int) := wrap_id (by omega) (by omega)
    have w1 : IntKind.i64.wrap (z19 + (((trimL z11 [48]).length : Int) - ((trimR (trimL z11 [48]) [48]).length : Int))) = z19 + (((trimL z11 [48]).length : Int) - ((trimR (trimL z11 [48]) [48]).length : Int)) := wrap_id (by omega) (by omega)
    rw [w0, w1, chk_pos (dtrue (by omega)), chk_pos (dtrue (by simp only [List.length_append, List.length_cons, List.length_nil]; omega)), Bool.cond_self]
    unfold finD
    have hc : (([48] : Str) ++ (trimR (trimL z11 ([48] : Str)) ([48] : Str))) = 48 :: trimR (trimL z11 [48]) [48] := rfl
    rw [hc]
    by_cases h0 : trimR (trimL z11 [48]) [48] = []
    · rw [h0, if_pos rfl]
      have a0 : atoiVal (48 :: ([] : Str)) = 0 := by decide +kernel
      have a1 : decide (((([] : Str)).length : Int) > 18) = false := rfl
      have a2 : IntKind.i64.wrap (0 - 0) = 0 := by decide
      rw [a0, a1, cond_false, a2, make_zero, Bool.cond_self]
    · rw [if_neg h0]
      obtain ⟨f1, f2, f3⟩ := short_facts z11 h h0
      have hX : -3000000 ≤ z19 + (((trimL z11 [48]).length : Int) - ((trimR (trimL z11 [48]) [48]).length : Int)) := by omega
      generalize trimR (trimL z11 [48]) [48] = sh at *
      generalize (z19 + (((trimL z11 [48]).length : Int) - (sh.length : Int))) = X at *
      have hpos : 1 ≤ sh.length := by cases sh with | nil => exact (h0 rfl).elim | cons _ _ => simp
      by_cases h18 : sh.length ≤ 18
      · rw [dfalse (show ¬ (sh.length : Int) > 18 by omega), cond_false]
        have hlt := valD_lt sh 0 f1
        have hp : (10 : Nat) ^ sh.length ≤ 10 ^ 18 := Nat.pow_le_pow_right (by omega) h18
        have e18 : (10 : Nat) ^ 18 = 1000000000000000000 := rfl
        have v48 : valD (48 :: sh) 0 = valD sh 0 := rfl
        have ha : atoiVal (48 :: sh) = (valD sh 0 : Int) := by
          obtain ⟨i1, _⟩ := atoi_dig (48 :: sh) (fun x hx => by rcases List.mem_cons.1 hx with rfl | hx; (unfold isDig; decide); exact f1 x hx) (by simp)
          unfold atoiVal
          rw [i1 (by rw [v48]; omega), v48]
        rw [ha]
        have hm : Int.tmod (valD sh 0 : Int) 10 ≠ 0 := by rw [Int.tmod_eq_emod_of_nonneg (by omega)]; omega
        cases hy : (y2 != 0) with
        | true =>
          rw [cond_true, if_pos rfl, wrap_id (by omega) (by omega)]
          have e0 : (0 - (valD sh 0 : Int)) = -(valD sh 0 : Int) := by omega
          rw [e0]
          exact make_unit _ _ (tmod_neg hm) (by unfold I64; omega) (by omega) _
        | false =>
          rw [cond_false, if_neg (by simp)]
          exact make_unit _ _ hm (by unfold I64; omega) (by omega) _
      · rw [dtrue (show (sh.length : Int) > 18 by omega), cond_true]
        have hp : (10 : Nat) ^ 18 ≤ 10 ^ (sh.length - 1) := Nat.pow_le_pow_right (by omega) (by omega)
        have e18 : (10 : Nat) ^ 18 = 1000000000000000000 := rfl
        rw [mkD_far _ (by split <;> omega)]
  · have hbe : (z20 == ([] : Str)) = false := by rw [beq_eq_false_iff_ne]; exact hz
    rw [hbe, if_neg hz]
    rfl
def noD : Dcm × Bool := (⟨0, 0⟩, false)
def tailD (neg : Bool) (all : Str) (x : Int) (X : Str) : Dcm × Bool :=
  if (signP [101, 69] X).1 = 0 then (if (signP [101, 69] X).2 = [] then finD neg all x else noD)
  else if (expP (signP [101, 69] X).2).2.1 = false then noD
  else if (expP (signP [101, 69] X).2).2.2 = [] then finD neg all (x + (expP (signP [101, 69] X).2).1) else noD
def parseS (s : Str) : Dcm × Bool :=
  let q := signP [45] s
  let I := takeD q.2
  let r := dropD q.2
  if 400 < s.length then noD else if I = [] then noD else if 1 < I.length ∧ (I.getD 0 0).toNat = 48 then noD
  else if (signP [46] r).1 = 0 then tailD (q.1 != 0) I 0 (signP [46] r).2
  else if takeD (signP [46] r).2 = [] then noD
  else tailD (q.1 != 0) (I ++ takeD (signP [46] r).2) (-((takeD (signP [46] r).2).length : Int)) (dropD (signP [46] r).2)
theorem expP_lim (X : Str) : -1000000 ≤ (expP X).1 ∧ (expP X).1 ≤ 1000000 := by
  unfold expP
  simp only
  split <;> omega
theorem neN (n : Nat) : (((n : Nat) : Int) != 0) = (n != 0) := by
  cases n with
  | zero => rfl
  | succ n => rw [bne_iff_ne.2 (by omega), bne_iff_ne.2 (by omega)]
theorem tailD_ok {R : Type} (q : Nat) (all : Str) (x : Int) (X : Str) (ha : ∀ c ∈ all, isDig c) (hl : all.length ≤ 900) (h1 : -1000 ≤ x) (h2 : x ≤ 0) (hX : X.length ≤ 1000) (k : Dcm → Bool → Option R) :
    q38 ([101, 69] : Str) X (fun y14 y15 => bif (y14 != 0) then (q30 y15 (fun y16 y17 y18 => bif (!y17) then (k (⟨0, 0⟩ : Dcm) false) else (chk (isAsc ([48] : Str) && decide (([48] : Str).length < 4294967281)) (chk (isAsc ([48] : Str) && decide (([48] : Str).length < 4294967281)) (bif (!(y18 == ([] : Str))) then (k (⟨0, 0⟩ : Dcm) false) else (bif (decide (((trimR (trimL all ([48] : Str)) ([48] : Str)).length : Int) > (18 : Int))) then (k (⟨0, 0⟩ : Dcm) false) else (chk (decide (1 + (trimR (trimL all ([48] : Str)) ([48] : Str)).length ≤ 9223372036854775807)) (chk (decide ((([48] : Str) ++ (trimR (trimL all ([48] : Str)) ([48] : Str))).length ≤ 281474976710656)) (bif atoiOk (([48] : Str) ++ (trimR (trimL all ([48] : Str)) ([48] : Str))) then (bif ((q : Int) != 0) then (q65 (IntKind.i64.wrap (0 - (atoiVal (([48] : Str) ++ (trimR (trimL all ([48] : Str)) ([48] : Str)))))) (IntKind.i64.wrap ((IntKind.i64.wrap (x + y16)) + (IntKind.i64.wrap (((trimL all ([48] : Str)).length : Int) - ((trimR (trimL all ([48] : Str)) ([48] : Str)).length : Int))))) (fun y25 y26 => k y25 y26)) else (q65 (atoiVal (([48] : Str) ++ (trimR (trimL all ([48] : Str)) ([48] : Str)))) (IntKind.i64.wrap ((IntKind.i64.wrap (x + y16)) + (IntKind.i64.wrap (((trimL all ([48] : Str)).length : Int) - ((trimR (trimL all ([48] : Str)) ([48] : Str)).length : Int))))) (fun y27 y28 => k y27 y28))) else (bif ((q : Int) != 0) then (q65 (IntKind.i64.wrap (0 - (atoiVal (([48] : Str) ++ (trimR (trimL all ([48] : Str)) ([48] : Str)))))) (IntKind.i64.wrap ((IntKind.i64.wrap (x + y16)) + (IntKind.i64.wrap (((trimL all ([48] : Str)).length : Int) - ((trimR (trimL all ([48] : Str)) ([48] : Str)).length : Int))))) (fun y25 y26 => k y25 y26)) else (q65 (atoiVal (([48] : Str) ++ (trimR (trimL all ([48] : Str)) ([48] : Str)))) (IntKind.i64.wrap ((IntKind.i64.wrap (x + y16)) + (IntKind.i64.wrap (((trimL all ([48] : Str)).length : Int) - ((trimR (trimL all ([48] : Str)) ([48] : Str)).length : Int))))) (fun y27 y28 => k y27 y28)))))))))))) else (chk (isAsc ([48] : Str) && decide (([48] : Str).length < 4294967281)) (chk (isAsc ([48] : Str) && decide (([48] : Str).length < 4294967281)) (bif (!(y15 == ([] : Str))) then (k (⟨0, 0⟩ : Dcm) false) else (bif (decide (((trimR (trimL all ([48] : Str)) ([48] : Str)).length : Int) > (18 : Int))) then (k (⟨0, 0⟩ : Dcm) false) else (chk (decide (1 + (trimR (trimL all ([48] : Str)) ([48] : Str)).length ≤ 9223372036854775807)) (chk (decide ((([48] : Str) ++ (trimR (trimL all ([48] : Str)) ([48] : Str))).length ≤ 281474976710656)) (bif atoiOk (([48] : Str) ++ (trimR (trimL all ([48] : Str)) ([48] : Str))) then (bif ((q : Int) != 0) then (q65 (IntKind.i64.wrap (0 - (atoiVal (([48] : Str) ++ (trimR (trimL all ([48] : Str)) ([48] : Str)))))) (IntKind.i64.wrap (x + (IntKind.i64.wrap (((trimL all ([48] : Str)).length : Int) - ((trimR (trimL all ([48] : Str)) ([48] : Str)).length : Int))))) (fun y25 y26 => k y25 y26)) else (q65 (atoiVal (([48] : Str) ++ (trimR (trimL all ([48] : Str)) ([48] : Str)))) (IntKind.i64.wrap (x + (IntKind.i64.wrap (((trimL all ([48] : Str)).length : Int) - ((trimR (trimL all ([48] : Str)) ([48] : Str)).length : Int))))) (fun y27 y28 => k y27 y28))) else (bif ((q : Int) != 0) then (q65 (IntKind.i64.wrap (0 - (atoiVal (([48] : Str) ++ (trimR (trimL all ([48] : Str)) ([48] : Str)))))) (IntKind.i64.wrap (x + (IntKind.i64.wrap (((trimL all ([48] : Str)).length : Int) - ((trimR (trimL all ([48] : Str)) ([48] : Str)).length : Int))))) (fun y25 y26 => k y25 y26)) else (q65 (atoiVal (([48] : Str) ++ (trimR (trimL all ([48] : Str)) ([48] : Str)))) (IntKind.i64.wrap (x + (IntKind.i64.wrap (((trimL all ([48] : Str)).length : Int) - ((trimR (trimL all ([48] : Str)) ([48] : Str)).length : Int))))) (fun y27 y28 => k y27 y28))))))))))) = k (tailD (q != 0) all x X).1 (tailD (q != 0) all x X).2 := by
  rw [sign_ok _ _ (by omega)]
  unfold tailD
  have l5 := signP_le [101, 69] X
  generalize signP [101, 69] X = g at *
  rw [neN]
  by_cases hg : g.1 = 0
  · rw [if_pos hg, hg]
    simp only [bne_self_eq_false, cond_false]
    rw [fin_ok _ _ _ _ ha (by omega) (by omega), neN]
    split <;> rfl
  · rw [if_neg hg, bne_iff_ne.2 hg, cond_true, exp_any _ (by omega)]
    have hlim := expP_lim g.2
    generalize expP g.2 = z at *
    rw [wrap_id (n := x + z.1) (by omega) (by omega)]
    cases hz : z.2.1 with
    | false => rfl
    | true =>
      rw [Bool.not_true, cond_false, fin_ok _ _ _ _ ha (by omega) (by omega), neN, if_neg (show ¬ (true = false) by simp)]
      split <;> rfl
theorem parse_any {R : Type} (s : Str) (hs : s.length ≤ 4000000000) (k : Dcm → Bool → Option R) : q61 s k = k (parseS s).1 (parseS s).2 := by
  have e : q61 s k = q61_X q65 q38 q32 q30 s k := rfl
  rw [e]
  unfold q61_X
  have l1 := signP_le [45] s
  rw [sign_ok _ _ hs]
  unfold parseS
  simp only
  generalize signP [45] s = q at *
  rw [digits_any _ (by omega)]
  have l2 := take_le q.2
  have l3 := dropD_le q.2
  have dI := take_dig q.2
  generalize takeD q.2 = I at *
  generalize dropD q.2 = r at *
  by_cases h400 : 400 < s.length
  · rw [dtrue (show (s.length : Int) > 400 by omega), cond_true, if_pos h400]
    rfl
  rw [dfalse (show ¬ (s.length : Int) > 400 by omega), cond_false, if_neg h400]
  by_cases hI : I = []
  · subst hI
    rw [if_pos rfl]
    rfl
  have hne : (I == ([] : Str)) = false := by rw [beq_eq_false_iff_ne]; exact hI
  rw [hne, cond_false, if_neg hI]
  have hpos : 1 ≤ I.length := by cases I with | nil => exact (hI rfl).elim | cons _ _ => simp
  have q48 : (((I.getD 0 0).toNat : Int) == 48) = decide ((I.getD 0 0).toNat = 48) := eqI _ 48
  rw [chk_pos (dtrue (show (0 : Int) < I.length by omega)), q48]
  by_cases h48 : 1 < I.length ∧ (I.getD 0 0).toNat = 48
  · rw [if_pos h48, dtrue (show (I.length : Int) > 1 by omega), dtrue h48.2]
    rfl
  rw [if_neg h48]
  have cut : ∀ x : Option R, (bif decide ((I.length : Int) > 1) then (bif decide ((I.getD 0 0).toNat = 48) then k ⟨0, 0⟩ false else x) else x) = x := fun x => by
    by_cases h1 : 1 < I.length
    · rw [dtrue (show (I.length : Int) > 1 by omega), dfalse (fun h => h48 ⟨h1, h⟩)]; rfl
    · rw [dfalse (show ¬ (I.length : Int) > 1 by omega)]; rfl
  rw [cut]
  rw [sign_ok _ _ (by omega)]
  have l4 := signP_le [46] r
  generalize signP [46] r = p at *
  rw [neN]
  by_cases hp : p.1 = 0
  · rw [if_pos hp, hp]
    simp only [bne_self_eq_false, cond_false]
    exact tailD_ok q.1 I 0 p.2 dI (by omega) (by omega) (by omega) (by omega) k
  · rw [if_neg hp, bne_iff_ne.2 hp, cond_true, digits_any _ (by omega)]
    have l5 := take_le p.2
    have l6 := dropD_le p.2
    have dF := take_dig p.2
    generalize takeD p.2 = F at *
    generalize dropD p.2 = Y at *
    by_cases hF : F = []
    · subst hF
      rw [if_pos rfl]
      rfl
    have hne : (F == ([] : Str)) = false := by rw [beq_eq_false_iff_ne]; exact hF
    rw [hne, cond_false, if_neg hF, chk_pos (dtrue (by omega)), wrap_id (n := 0 - (F.length : Int)) (by omega) (by omega)]
    have e0 : (0 : Int) - (F.length : Int) = -(F.length : Int) := by omega
    rw [e0]
    exact tailD_ok q.1 (I ++ F) (-(F.length : Int)) Y (fun c hc => (List.mem_append.1 hc).elim (dI c) (dF c)) (by rw [List.length_append]; omega) (by omega) (by omega) (by omega) k
def numS : Str := [48, 49, 50, 51, 52, 53, 54, 55, 56, 57, 43, 45, 46, 101, 69]
def letS : Str := [97, 98, 99, 100, 101, 102, 103, 104, 105, 106, 107, 108, 109, 110, 111, 112, 113, 114, 115, 116, 117, 118, 119, 120, 121, 122]
def blaS : Str := [32, 9, 10, 13]
def sigS : Str := [123, 125, 91, 93, 44, 58]
def numB (b : UInt8) : Bool := numS.contains b
def letB (b : UInt8) : Bool := letS.contains b
def blaB (b : UInt8) : Bool := blaS.contains b
def sigB (b : UInt8) : Bool := sigS.contains b
def trueS : Str := [116, 114, 117, 101]
def falseS : Str := [102, 97, 108, 115, 101]
def nullS : Str := [110, 117, 108, 108]
def tokS (s : Str) : Option (Token × Str) :=
  match s with
  | [] => none
  | c :: t =>
    if c.toNat = 45 ∨ (48 ≤ c.toNat ∧ c.toNat ≤ 57) then
      (if (parseS (s.takeWhile numB)).2 then some (⟨3, s.takeWhile numB, (parseS (s.takeWhile numB)).1, 0⟩, s.dropWhile numB) else none)
    else if c.toNat = 34 then (match uqS s with | some (o, r) => some (⟨2, o, ⟨0, 0⟩, 0⟩, r) | none => none)
    else if sigB c then some (⟨1, [c], ⟨0, 0⟩, 0⟩, t)
    else if s.takeWhile letB = trueS ∨ s.takeWhile letB = falseS ∨ s.takeWhile letB = nullS then some (⟨4, s.takeWhile letB, ⟨0, 0⟩, 0⟩, s.dropWhile letB)
    else none
def putT (t : Token) (n : Int) : Token := ⟨t.kind, t.text, t.num, n⟩
abbrev Item3 := Str × Str × Token
def layW : List Item3 → Str → Str
  | [], z => z
  | x :: l, z => x.1 ++ (x.2.1 ++ layW l z)
def okW : List Item3 → Str → Prop
  | [], _ => True
  | x :: l, z => (∀ b ∈ x.1, blaB b = true) ∧ (∃ c u, x.2.1 = c :: u ∧ blaB c = false) ∧ tokS (x.2.1 ++ layW l z) = some (x.2.2, layW l z) ∧ okW l z
def tokW : Nat → List Item3 → List Token
  | _, [] => []
  | p, x :: l => putT x.2.2 ((p + x.1.length : Nat) : Int) :: tokW (p + x.1.length + x.2.1.length) l
def stopR (r : Str) : Prop := r = [] ∨ ∃ b u, r = b :: u ∧ numB b = false ∧ letB b = false
def Word (w : Str) (t : Token) : Prop := (∃ c u, w = c :: u ∧ blaB c = false) ∧ ∀ r, stopR r → tokS (w ++ r) = some (t, r)
theorem tw_stop {p : UInt8 → Bool} : ∀ (w r : Str), (∀ b ∈ w, p b = true) → (r = [] ∨ ∃ b u, r = b :: u ∧ p b = false) → (w ++ r).takeWhile p = w ∧ (w ++ r).dropWhile p = r
  | [], r, _, h => by
    rcases h with rfl | ⟨b, u, rfl, hb⟩
    · exact ⟨rfl, rfl⟩
    · exact ⟨by rw [List.nil_append, List.takeWhile_cons, hb]; rfl, by rw [List.nil_append, List.dropWhile_cons, hb]; rfl⟩
  | b :: w, r, hw, h => by
    have hb := hw b (by simp)
    obtain ⟨h1, h2⟩ := tw_stop w r (fun x hx => hw x (by simp [hx])) h
    exact ⟨by rw [List.cons_append, List.takeWhile_cons, hb, if_pos rfl, h1], by rw [List.cons_append, List.dropWhile_cons, hb, if_pos rfl, h2]⟩
theorem stop_num {r : Str} (h : stopR r) : r = [] ∨ ∃ b u, r = b :: u ∧ numB b = false := h.imp id fun ⟨b, u, e, h1, _⟩ => ⟨b, u, e, h1⟩
theorem stop_let {r : Str} (h : stopR r) : r = [] ∨ ∃ b u, r = b :: u ∧ letB b = false := h.imp id fun ⟨b, u, e, _, h1⟩ => ⟨b, u, e, h1⟩
theorem word_sign (c : UInt8) (h : sigB c = true) : Word [c] ⟨1, [c], ⟨0, 0⟩, 0⟩ := by
  have all : ∀ n : Fin 256, sigB (UInt8.ofNat n.val) = true → blaB (UInt8.ofNat n.val) = false ∧ ¬ (n.val = 45 ∨ (48 ≤ n.val ∧ n.val ≤ 57)) ∧ ¬ n.val = 34 := by decide +kernel
  obtain ⟨h1, h2, h3⟩ := all ⟨c.toNat, UInt8.toNat_lt c⟩ (by simpa using h)
  refine ⟨⟨c, [], rfl, by simpa using h1⟩, fun r _ => ?_⟩
  show tokS (c :: r) = _
  simp only [tokS]
  rw [if_neg h2, if_neg h3, if_pos h]
theorem word_name {w : Str} (h : w = trueS ∨ w = falseS ∨ w = nullS) : Word w ⟨4, w, ⟨0, 0⟩, 0⟩ := by
  have hl : ∀ b ∈ w, letB b = true := by rcases h with rfl | rfl | rfl <;> decide
  have hc : ∃ c u, w = c :: u ∧ blaB c = false ∧ ¬ (c.toNat = 45 ∨ (48 ≤ c.toNat ∧ c.toNat ≤ 57)) ∧ ¬ c.toNat = 34 ∧ sigB c = false := by
    rcases h with rfl | rfl | rfl <;> exact ⟨_, _, rfl, by decide, by decide, by decide, by decide⟩
  obtain ⟨c, u, rfl, h1, h2, h3, h4⟩ := hc
  refine ⟨⟨c, u, rfl, h1⟩, fun r hr => ?_⟩
  obtain ⟨t1, t2⟩ := tw_stop (c :: u) r hl (stop_let hr)
  show tokS (c :: (u ++ r)) = _
  have e : (c :: (u ++ r) : Str) = (c :: u) ++ r := rfl
  simp only [tokS]
  rw [if_neg h2, if_neg h3, h4, if_neg (by simp), e, t1, t2, if_pos h]
theorem word_text {rs : List Nat} (hr : ∀ c ∈ rs, vr c) : Word (qt rs) ⟨2, encL rs, ⟨0, 0⟩, 0⟩ := by
  have e : qt rs = 34 :: (qcL rs ++ [34]) := by unfold qt; simp
  refine ⟨⟨34, _, e, by decide⟩, fun r _ => ?_⟩
  have hu := uqS_qt rs hr r
  have e2 : qt rs ++ r = 34 :: (qcL rs ++ [34] ++ r) := by rw [e]; rfl
  rw [e2] at hu ⊢
  simp only [tokS]
  rw [if_neg (by decide), if_pos (by decide), hu]
theorem parseS_prt {d : Dcm} (hd : Fm d) : parseS (prt d) = (d, true) := by
  have key : ∀ k : Dcm → Bool → Option (Dcm × Bool), q61 (prt d) k = k d true := fun k => by
    by_cases h0 : d.mant = 0
    · rw [hd.zero h0, prt_zero, parse_zero]
    · have := parse_prt hd h0 [] 0 (.inl ⟨rfl, rfl⟩) (by omega) (by simp) k
      rw [List.append_nil, Int.add_zero, make_same hd h0] at this
      exact this
  have hl : (prt d).length ≤ 4000000000 := by
    by_cases h0 : d.mant = 0
    · rw [hd.zero h0, prt_zero]; simp
    · obtain ⟨I, F, pt, a, b, e1, e2, i0, i1, f0, f1, fl, il, iD, fD⟩ := prt_parts d hd h0
      rw [e1]
      cases hdn : decide (d.mant < 0) <;> cases pt <;> simp <;> omega
  have h1 := parse_any (prt d) hl (fun a b => some (a, b))
  rw [key] at h1
  simp only [Option.some.injEq] at h1
  rw [h1]
theorem prt_chars {d : Dcm} (hd : Fm d) : (∀ b ∈ prt d, numB b = true) ∧ (∃ c u, prt d = c :: u ∧ (c.toNat = 45 ∨ (48 ≤ c.toNat ∧ c.toNat ≤ 57))) ∧ (prt d).length ≤ 60 := by
  have dig : ∀ b : UInt8, isDig b → numB b = true := fun b hb => by
    have all : ∀ n : Fin 256, (48 ≤ n.val ∧ n.val ≤ 57) → numB (UInt8.ofNat n.val) = true := by decide +kernel
    have := all ⟨b.toNat, UInt8.toNat_lt b⟩ hb
    simpa using this
  by_cases h0 : d.mant = 0
  · rw [hd.zero h0, prt_zero]
    exact ⟨by decide, ⟨48, [], rfl, by decide⟩, by simp⟩
  · obtain ⟨I, F, pt, a, b, e1, e2, i0, i1, f0, f1, fl, il, iD, fD⟩ := prt_parts d hd h0
    rw [e1]
    refine ⟨fun x hx => ?_, ?_, ?_⟩
    · rcases List.mem_append.1 hx with hx | hx
      · split at hx
        · simp at hx; subst hx; decide
        · simp at hx
      · rcases List.mem_append.1 hx with hx | hx
        · exact dig x (iD x hx)
        · split at hx
          · rcases List.mem_cons.1 hx with rfl | hx
            · decide
            · exact dig x (fD x hx)
          · simp at hx
    · cases I with
      | nil => exact (i0 rfl).elim
      | cons c I =>
        cases decide (d.mant < 0) with
        | true => exact ⟨45, _, rfl, by decide⟩
        | false => exact ⟨c, _, rfl, .inr (iD c (by simp))⟩
    · cases hdn : decide (d.mant < 0) <;> cases pt <;> simp <;> omega
theorem word_num {d : Dcm} (hd : Fm d) : Word (prt d) ⟨3, prt d, d, 0⟩ := by
  obtain ⟨h1, ⟨c, u, h2, h3⟩, _⟩ := prt_chars hd
  have hp := parseS_prt hd
  have hb : blaB c = false := by
    have all : ∀ n : Fin 256, (n.val = 45 ∨ (48 ≤ n.val ∧ n.val ≤ 57)) → blaB (UInt8.ofNat n.val) = false := by decide +kernel
    have := all ⟨c.toNat, UInt8.toNat_lt c⟩ h3
    simpa using this
  refine ⟨⟨c, u, h2, hb⟩, fun r hr => ?_⟩
  obtain ⟨t1, t2⟩ := tw_stop (prt d) r h1 (stop_num hr)
  have e : prt d ++ r = c :: (u ++ r) := by rw [h2]; rfl
  rw [e] at t1 t2 ⊢
  simp only [tokS]
  rw [if_pos h3, t1, t2, hp]
  rfl
def sg (c : UInt8) : Item3 := ([], [c], ⟨1, [c], ⟨0, 0⟩, 0⟩)
theorem layW_app : ∀ (a b : List Item3) (z : Str), layW (a ++ b) z = layW a (layW b z)
  | [], _, _ => rfl
  | x :: a, b, z => by simp only [List.cons_append, layW, layW_app a b z]
theorem okW_app : ∀ (a b : List Item3) (z : Str), okW (a ++ b) z ↔ okW a (layW b z) ∧ okW b z
  | [], b, z => by simp [okW]
  | x :: a, b, z => by simp only [List.cons_append, okW, okW_app a b z, layW_app, and_assoc]
theorem okW_word {w : Str} {t : Token} (h : Word w t) {z : Str} (hz : stopR z) : okW [([], w, t)] z := ⟨by simp, h.1, h.2 z hz, trivial⟩
theorem sign_any {c : UInt8} (h : sigB c = true) (z : Str) : okW [sg c] z := by
  refine ⟨by simp [sg], (word_sign c h).1, ?_, trivial⟩
  have all : ∀ n : Fin 256, sigB (UInt8.ofNat n.val) = true → ¬ (n.val = 45 ∨ (48 ≤ n.val ∧ n.val ≤ 57)) ∧ ¬ n.val = 34 := by decide +kernel
  obtain ⟨h2, h3⟩ := all ⟨c.toNat, UInt8.toNat_lt c⟩ (by simpa using h)
  show tokS (c :: z) = some (⟨1, [c], ⟨0, 0⟩, 0⟩, z)
  simp only [tokS]
  rw [if_neg h2, if_neg h3, if_pos h]
theorem stop_sign {c : UInt8} (h : sigB c = true) (z : Str) : stopR (c :: z) := by
  have all : ∀ n : Fin 256, sigB (UInt8.ofNat n.val) = true → numB (UInt8.ofNat n.val) = false ∧ letB (UInt8.ofNat n.val) = false := by decide +kernel
  obtain ⟨h2, h3⟩ := all ⟨c.toNat, UInt8.toNat_lt c⟩ (by simpa using h)
  exact .inr ⟨c, z, rfl, by simpa using h2, by simpa using h3⟩
end Go.Proofs.YtmlkkgfenfdndaaGreatDoor
/-
  Functions of the program as pure Lean functions, and the ties; printed by wip/tools/emit.py.
-/
set_option maxRecDepth 100000
namespace Go.Proofs.YtmlkkgfenfdndaaGreatDoor
open Go Go.Yard
end Go.Proofs.YtmlkkgfenfdndaaGreatDoor
/-
  Functions of the program as pure Lean functions, and the ties; printed by wip/tools/emit.py.
-/
set_option maxRecDepth 100000
namespace Go.Proofs.YtmlkkgfenfdndaaGreatDoor
open Go Go.Yard
end Go.Proofs.YtmlkkgfenfdndaaGreatDoor
set_option maxRecDepth 100000
namespace Go.Proofs.YtmlkkgfenfdndaaGreatDoor
open Go Go.Yard Go.Lib
section
variable {R : Type} (k : Dcm → Bool → Option R) (s : Str) (hs : s.length ≤ 4000000000) (sg : Int) (hsg : sg = 1 ∨ sg = -1) (all : Str) (x : Int) (ha : ∀ c ∈ all, isDig c) (h0 : all ≠ []) (hl : all.length ≤ 900) (hx : -1000 ≤ x ∧ x ≤ 0)
include hs hsg ha h0 hl hx
end
def fmB (d : Dcm) : Bool := (d.mant == 0 && d.exp == 0) || (Int.tmod d.mant 10 != 0 && (decide (-1000000000000000 ≤ d.mant) && decide (d.mant ≤ 1000000000000000) && (decide (-9 ≤ d.exp) && decide (d.exp ≤ 9))))
theorem fmB_iff {d : Dcm} : fmB d = true ↔ Fm d := by
  unfold fmB Fm
  simp [and_assoc]
theorem right_any {R : Type} (d : Dcm) (k : Bool → Option R) : q63 d k = k (fmB d) := by
  have e : q63 d k = q63_X q52 d k := rfl
  rw [e]
  unfold q63_X fmB
  by_cases h0 : d.mant = 0
  · rw [h0]
    have t0 : ((0 : Int) == 0) = true := rfl
    have t1 : (Int.tmod 0 10 != 0) = false := rfl
    rw [t0, t1, cond_true, Bool.true_and, Bool.false_and, Bool.or_false]
  · have e0 : (d.mant == 0) = false := by rw [beq_eq_false_iff_ne]; exact h0
    rw [e0, cond_false, Bool.false_and, Bool.false_or]
    cases ht : (Int.tmod d.mant 10 != 0) with
    | false => rfl
    | true =>
      rw [cond_true, Bool.true_and, within_ok]
      cases (decide (-1000000000000000 ≤ d.mant) && decide (d.mant ≤ 1000000000000000)) with
      | false => rfl
      | true => rw [cond_true, within_ok, Bool.true_and]
theorem print_bad {R : Type} {d : Dcm} (hd : fmB d = false) (k : Str → Option R) : q64 d k = k [] := by
  have e : q64 d k = q64_X q63 q26 q21 q20 d k := rfl
  rw [e]
  unfold q64_X
  rw [right_any, hd]
  rfl
def prtA (d : Dcm) : Str := if fmB d then prt d else []
theorem print_any {R : Type} (d : Dcm) (k : Str → Option R) : q64 d k = k (prtA d) := by
  unfold prtA
  cases h : fmB d with
  | true => rw [print_ok (fmB_iff.1 h)]; rfl
  | false => rw [print_bad h]; rfl
def uniqN : List Str → List Str → Bool
  | _, [] => true
  | seen, n :: l => !seen.contains n && validS n && uniqN (n :: seen) l
mutual
def rightJ : Json → Int → Bool
  | ⟨k, n, t, ns, is⟩, d => decide (d ≤ 16) && (decide (1 ≤ k) && decide (k ≤ 7)) && (k == 4 || (n.mant == 0 && n.exp == 0)) && (k == 5 || t.isEmpty) && (k == 7 || ns.isEmpty) && (k == 6 || k == 7 || is.isEmpty) &&
      (if k = 4 then fmB n else if k = 5 then validS t else if k = 7 then decide (ns.length = is.length) && uniqN [] ns && rightL is (d + 1) else rightL is (d + 1))
def rightL : List Json → Int → Bool
  | [], _ => true
  | x :: l, d => rightJ x d && rightL l d
end
theorem rightL_mem {d : Int} : ∀ {l : List Json} {x : Json}, rightL l d = true → x ∈ l → rightJ x d = true
  | y :: l, x, h, hx => by
    simp only [rightL, Bool.and_eq_true] at h
    rcases List.mem_cons.1 hx with rfl | hx
    · exact h.1
    · exact rightL_mem h.2 hx
inductive RightC : Json → Int → Prop where
  | name (k : Int) (d : Int) (hd : d ≤ 16) (hk : k = 1 ∨ k = 2 ∨ k = 3) : RightC ⟨k, ⟨0, 0⟩, [], [], []⟩ d
  | num (n : Dcm) (d : Int) (hd : d ≤ 16) (hn : Fm n) : RightC ⟨4, n, [], [], []⟩ d
  | text (t : Str) (d : Int) (hd : d ≤ 16) (ht : validS t = true) : RightC ⟨5, ⟨0, 0⟩, t, [], []⟩ d
  | arr (is : List Json) (d : Int) (hd : d ≤ 16) (hi : rightL is (d + 1) = true) : RightC ⟨6, ⟨0, 0⟩, [], [], is⟩ d
  | obj (ns : List Str) (is : List Json) (d : Int) (hd : d ≤ 16) (hl : ns.length = is.length) (hu : uniqN [] ns = true) (hi : rightL is (d + 1) = true) : RightC ⟨7, ⟨0, 0⟩, [], ns, is⟩ d
theorem rightJ_iff {v : Json} {d : Int} : rightJ v d = true ↔ RightC v d := by
  obtain ⟨k, ⟨m, e⟩, t, ns, is⟩ := v
  constructor
  · intro h
    simp only [rightJ, Bool.and_eq_true, Bool.or_eq_true, decide_eq_true_eq, beq_iff_eq, List.isEmpty_iff] at h
    obtain ⟨⟨⟨⟨⟨⟨hd, hk1, hk2⟩, hn⟩, ht⟩, hns⟩, his⟩, hx⟩ := h
    have hk : k = 1 ∨ k = 2 ∨ k = 3 ∨ k = 4 ∨ k = 5 ∨ k = 6 ∨ k = 7 := by omega
    rcases hk with rfl | rfl | rfl | rfl | rfl | rfl | rfl
    · simp at hn ht hns his
      obtain ⟨rfl, rfl⟩ := hn
      subst ht hns his
      exact .name 1 d hd (by omega)
    · simp at hn ht hns his
      obtain ⟨rfl, rfl⟩ := hn
      subst ht hns his
      exact .name 2 d hd (by omega)
    · simp at hn ht hns his
      obtain ⟨rfl, rfl⟩ := hn
      subst ht hns his
      exact .name 3 d hd (by omega)
    · simp at ht hns his hx
      subst ht hns his
      exact .num _ d hd (fmB_iff.1 hx)
    · simp at hn hns his hx
      obtain ⟨rfl, rfl⟩ := hn
      subst hns his
      exact .text t d hd hx
    · simp at hn ht hns hx
      obtain ⟨rfl, rfl⟩ := hn
      subst ht hns
      exact .arr is d hd hx
    · simp at hn ht hx
      obtain ⟨rfl, rfl⟩ := hn
      subst ht
      exact .obj ns is d hd hx.1.1 hx.1.2 hx.2
  · intro h
    cases h with
    | name _ _ hd hk => rcases hk with rfl | rfl | rfl <;> simp [rightJ, rightL, hd]
    | num _ _ hd hn => simp [rightJ, hd, fmB_iff.2 hn]
    | text _ _ hd ht => simp [rightJ, hd, ht]
    | arr _ _ hd hi => simp [rightJ, hd, hi]
    | obj _ _ _ hd hl hu hi => simp [rightJ, hd, hl, hu, hi]
def qtS (t : Str) : Str := 34 :: (t.flatMap qb ++ [34])
theorem qtS_enc {rs : List Nat} (hr : ∀ c ∈ rs, vr c) : qtS (encL rs) = qt rs := by unfold qtS qt; rw [qb_encL rs hr]
mutual
def printJ : Json → Str
  | ⟨k, n, t, ns, is⟩ => if k = 1 then nullS else if k = 2 then falseS else if k = 3 then trueS else if k = 4 then prtA n else if k = 5 then qtS t else if k = 7 then 123 :: (printO ns is true ++ [125]) else 91 :: (printL is true ++ [93])
def printL : List Json → Bool → Str
  | [], _ => []
  | x :: l, first => (if first then [] else [44]) ++ (printJ x ++ printL l false)
def printO : List Str → List Json → Bool → Str
  | _, [], _ => []
  | ns, x :: l, first => (if first then [] else [44]) ++ (qtS (ns.headD []) ++ (58 :: (printJ x ++ printO ns.tail l false)))
end
def txW (t : Str) : Item3 := ([], qtS t, ⟨2, t, ⟨0, 0⟩, 0⟩)
mutual
def wordsJ : Json → List Item3
  | ⟨k, n, t, ns, is⟩ => if k = 1 then [([], nullS, ⟨4, nullS, ⟨0, 0⟩, 0⟩)] else if k = 2 then [([], falseS, ⟨4, falseS, ⟨0, 0⟩, 0⟩)] else if k = 3 then [([], trueS, ⟨4, trueS, ⟨0, 0⟩, 0⟩)]
      else if k = 4 then [([], prtA n, ⟨3, prtA n, n, 0⟩)] else if k = 5 then [txW t] else if k = 7 then sg 123 :: (wordsO ns is true ++ [sg 125]) else sg 91 :: (wordsL is true ++ [sg 93])
def wordsL : List Json → Bool → List Item3
  | [], _ => []
  | x :: l, first => (if first then [] else [sg 44]) ++ (wordsJ x ++ wordsL l false)
def wordsO : List Str → List Json → Bool → List Item3
  | _, [], _ => []
  | ns, x :: l, first => (if first then [] else [sg 44]) ++ (txW (ns.headD []) :: sg 58 :: (wordsJ x ++ wordsO ns.tail l false))
end
mutual
theorem lay_words : ∀ (v : Json) (z : Str), layW (wordsJ v) z = printJ v ++ z
  | ⟨k, n, t, ns, is⟩, z => by
    have hL := lay_wordsL is true
    have hO := lay_wordsO ns is true
    simp only [wordsJ, printJ]
    split
    · simp [layW]
    split
    · simp [layW]
    split
    · simp [layW]
    split
    · simp [layW]
    split
    · simp [layW, txW]
    split
    · simp only [layW, sg, layW_app, hO]; simp [layW, sg]
    · simp only [layW, sg, layW_app, hL]; simp [layW, sg]
theorem lay_wordsL : ∀ (l : List Json) (first : Bool) (z : Str), layW (wordsL l first) z = printL l first ++ z
  | [], _, z => rfl
  | x :: l, first, z => by
    have h1 := lay_words x
    have h2 := lay_wordsL l false
    simp only [wordsL, printL]
    rw [layW_app, layW_app, h1, h2]
    cases first <;> simp [layW, sg]
theorem lay_wordsO : ∀ (ns : List Str) (l : List Json) (first : Bool) (z : Str), layW (wordsO ns l first) z = printO ns l first ++ z
  | ns, [], _, z => by simp [wordsO, printO, layW]
  | ns, x :: l, first, z => by
    have h1 := lay_words x
    have h2 := lay_wordsO ns.tail l false
    simp only [wordsO, printO]
    rw [layW_app]
    simp only [layW, txW, sg, layW_app, h1, h2]
    cases first <;> simp [layW, sg]
end
theorem text_any {t : Str} (ht : validS t = true) (z : Str) : okW [txW t] z := by
  obtain ⟨rs, hr, rfl⟩ := whole_iff.1 ht
  have e := qtS_enc hr
  have hw := word_text hr
  refine ⟨by simp [txW], by simp only [txW, e]; exact hw.1, ?_, trivial⟩
  show tokS (qtS (encL rs) ++ z) = some (⟨2, encL rs, ⟨0, 0⟩, 0⟩, z)
  have e2 : qt rs = 34 :: (qcL rs ++ [34]) := by unfold qt; simp
  have hu := uqS_qt rs hr z
  have e3 : qt rs ++ z = 34 :: (qcL rs ++ [34] ++ z) := by rw [e2]; rfl
  rw [e, e3]
  rw [e3] at hu
  simp only [tokS]
  rw [if_neg (by decide), if_pos (by decide), hu]
mutual
theorem words_ok : ∀ (v : Json) (d : Int), rightJ v d = true → ∀ z, stopR z → okW (wordsJ v) z
  | ⟨k, n, t, ns, is⟩, d, h, z, hz => by
    have hL := words_okL is
    have hO := words_okO ns is
    cases rightJ_iff.1 h with
    | name _ _ hd hk =>
      rcases hk with rfl | rfl | rfl
      · exact okW_word (word_name (.inr (.inr rfl))) hz
      · exact okW_word (word_name (.inr (.inl rfl))) hz
      · exact okW_word (word_name (.inl rfl)) hz
    | num _ _ hd hn =>
      have e : prtA n = prt n := by unfold prtA; rw [fmB_iff.2 hn]; rfl
      show okW [([], prtA n, ⟨3, prtA n, n, 0⟩)] z
      rw [e]
      exact okW_word (word_num hn) hz
    | text _ _ hd ht => exact text_any ht z
    | arr _ _ hd hi =>
      show okW ([sg 91] ++ (wordsL is true ++ [sg 93])) z
      rw [okW_app, okW_app]
      exact ⟨sign_any (by decide) _, hL true (d + 1) hi _ (stop_sign (by decide) _), sign_any (by decide) _⟩
    | obj _ _ _ hd hl hu hi =>
      show okW ([sg 123] ++ (wordsO ns is true ++ [sg 125])) z
      rw [okW_app, okW_app]
      exact ⟨sign_any (by decide) _, hO true (d + 1) hi hl [] hu _ (stop_sign (by decide) _), sign_any (by decide) _⟩
theorem words_okL : ∀ (l : List Json) (first : Bool) (d : Int), rightL l d = true → ∀ z, stopR z → okW (wordsL l first) z
  | [], _, _, _, _, _ => trivial
  | x :: l, first, d, h, z, hz => by
    simp only [rightL, Bool.and_eq_true] at h
    have h1 := words_ok x d h.1
    have h2 := words_okL l false d h.2 z hz
    simp only [wordsL]
    rw [okW_app, okW_app]
    refine ⟨?_, h1 _ ?_, h2⟩
    · cases first
      · exact sign_any (by decide) _
      · trivial
    · cases l with
      | nil => exact hz
      | cons y l =>
        simp only [wordsL]
        exact stop_sign (c := 44) (by decide) _
theorem words_okO : ∀ (ns : List Str) (l : List Json) (first : Bool) (d : Int), rightL l d = true → ns.length = l.length → ∀ seen, uniqN seen ns = true → ∀ z, stopR z → okW (wordsO ns l first) z
  | ns, [], _, _, _, _, _, _, _, _ => by simp [wordsO, okW]
  | [], _ :: _, _, _, _, hl, _, _, _, _ => by simp at hl
  | n :: ns, x :: l, first, d, h, hl, seen, hu, z, hz => by
    simp only [rightL, Bool.and_eq_true] at h
    simp only [uniqN, Bool.and_eq_true] at hu
    have h1 := words_ok x d h.1
    have h2 := words_okO ns l false d h.2 (by simpa using hl) _ hu.2 z hz
    simp only [wordsO, List.headD_cons, List.tail_cons]
    show okW ((if first = true then [] else [sg 44]) ++ ([txW n] ++ ([sg 58] ++ (wordsJ x ++ wordsO ns l false)))) z
    rw [okW_app, okW_app, okW_app, okW_app]
    refine ⟨?_, text_any hu.1.2 _, sign_any (by decide) _, h1 _ ?_, h2⟩
    · cases first
      · exact sign_any (by decide) _
      · trivial
    · cases l with
      | nil => simp only [wordsO, layW]; exact hz
      | cons y l =>
        simp only [wordsO]
        exact stop_sign (c := 44) (by decide) _
end
end Go.Proofs.YtmlkkgfenfdndaaGreatDoor
/-
  Functions of the program as pure Lean functions, and the ties; printed by wip/tools/emit.py.
-/
set_option maxRecDepth 100000
namespace Go.Proofs.YtmlkkgfenfdndaaGreatDoor
open Go Go.Yard
/-! ### (*humpyard/json.parser).fail -/
abbrev q51_ty (R : Type) : Type := Int → (List Token) → Int → ((List Token) → Int → Option R) → Option R
abbrev q51_p : List Pat := [.leaf (.ptr 0 0), .leaf (.int .i64)]
abbrev q51_q : List HPat := [.cells [.sl .token, .int .i64]]
noncomputable def q51_rr {R : Type} (fn : q51_ty R) : Pat.dens q51_p → HPat.dens q51_q → (V → Heap → Option R) → Option R := fun x y k => fn x.2.1 y.1.1 y.1.2.1 (fun q0 q1 => k (.tuple []) [.cells [.sl .token q0 .no, .int .i64 q1]])
noncomputable def q51_E (R : Type) : Env R := fun i => match i with
  | _ => none
theorem q51_EOk (R : Type) : EOk Tryz.prog (q51_E R) := by
  intro i b sp h
  unfold q51_E at h
  split at h
  · cases h
noncomputable def q51_T (R : Type) : Nat → Option (Hint × LSpec R) := fun i => match i with
  | _ => none
noncomputable def q51_X {R : Type} (x1 : Int) (x2 : List Token) (x3 : Int) (k0 : (List Token) → Int → Option R) : Option R :=
  bif (x3 == 0) then (k0 x2 x1) else (k0 x2 x3)
noncomputable def q51 {R : Type} : q51_ty R := fun x1 x2 x3 k0 => q51_X x1 x2 x3 k0
theorem q51_ok {R : Type} (x1 : Int) (x2 : List Token) (x3 : Int) (k : V → Heap → Option R) : funK (tt.mode [.json]) (q51_E R) (q51_T R) false Tryz.f43 (codeOf Tryz.f43) [.ptr 0 0, .int .i64 x1] [.cells [.sl .token x2 .no, .int .i64 x3]] k =
    q51_X x1 x2 x3 (fun q0 q1 => k (.tuple []) [.cells [.sl .token q0 .no, .int .i64 q1]]) := by kernel_rfl
theorem q51_loops (R : Type) : ∀ a ∈ loopsOf (codeOf Tryz.f43), LoopOk (tt.mode [.json]) (q51_E R) (q51_T R) 1 a := by
  refine loops_ok 0 (by kernel_rfl) fun i hi => ?_
  omega
theorem q51_S_ok (R : Type) (other : Yard.Spec R) (ho : Yard.Spec.Ok Tryz.prog 43 other) : Yard.Spec.Ok Tryz.prog 43 (specBy q51_p q51_q (q51_rr q51) other) :=
  specBy_ok ho (funK_sound (TT.mode [.json]) mixed (q51_EOk R) (keep := false) rfl rfl rfl rfl 1 (q51_loops R)) fun (x : Pat.dens q51_p) (y : HPat.dens q51_q) k => q51_ok x.2.1 y.1.1 y.1.2.1 k
/-! ### (*humpyard/json.parser).sign -/
abbrev q49_ty (R : Type) : Type := Str → (List Token) → Int → (Bool → (List Token) → Int → Option R) → Option R
abbrev q49_p : List Pat := [.leaf (.ptr 0 0), .leaf (.str)]
abbrev q49_q : List HPat := [.cells [.sl .token, .int .i64]]
noncomputable def q49_rr {R : Type} (fn : q49_ty R) : Pat.dens q49_p → HPat.dens q49_q → (V → Heap → Option R) → Option R := fun x y k => fn x.2.1 y.1.1 y.1.2.1 (fun q0 q1 q2 => k (.bool q0) [.cells [.sl .token q1 .no, .int .i64 q2]])
noncomputable def q49_E (R : Type) : Env R := fun i => match i with
  | _ => none
theorem q49_EOk (R : Type) : EOk Tryz.prog (q49_E R) := by
  intro i b sp h
  unfold q49_E at h
  split at h
  · cases h
noncomputable def q49_T (R : Type) : Nat → Option (Hint × LSpec R) := fun i => match i with
  | _ => none
noncomputable def q49_X {R : Type} (x1 : Str) (x2 : List Token) (x3 : Int) (k0 : Bool → (List Token) → Int → Option R) : Option R :=
  chk (decide ((0 : Int) < x2.length)) (bif (x3 != 0) then (k0 false x2 x3) else (bif ((x2.getD 0 (Ty.dflt .token)).kind != 1) then (k0 false x2 x3) else (bif (!((x2.getD 0 (Ty.dflt .token)).text == x1)) then (k0 false x2 x3) else (chk (decide ((1 : Int) ≤ x2.length)) (k0 true (x2.drop 1) x3)))))
noncomputable def q49 {R : Type} : q49_ty R := fun x1 x2 x3 k0 => q49_X x1 x2 x3 k0
theorem q49_ok {R : Type} (x1 : Str) (x2 : List Token) (x3 : Int) (k : V → Heap → Option R) : funK (tt.mode [.json]) (q49_E R) (q49_T R) false Tryz.f122 (codeOf Tryz.f122) [.ptr 0 0, .str x1] [.cells [.sl .token x2 .no, .int .i64 x3]] k =
    q49_X x1 x2 x3 (fun q0 q1 q2 => k (.bool q0) [.cells [.sl .token q1 .no, .int .i64 q2]]) := by kernel_rfl
theorem q49_loops (R : Type) : ∀ a ∈ loopsOf (codeOf Tryz.f122), LoopOk (tt.mode [.json]) (q49_E R) (q49_T R) 1 a := by
  refine loops_ok 0 (by kernel_rfl) fun i hi => ?_
  omega
theorem q49_S_ok (R : Type) (other : Yard.Spec R) (ho : Yard.Spec.Ok Tryz.prog 122 other) : Yard.Spec.Ok Tryz.prog 122 (specBy q49_p q49_q (q49_rr q49) other) :=
  specBy_ok ho (funK_sound (TT.mode [.json]) mixed (q49_EOk R) (keep := false) rfl rfl rfl rfl 1 (q49_loops R)) fun (x : Pat.dens q49_p) (y : HPat.dens q49_q) k => q49_ok x.2.1 y.1.1 y.1.2.1 k
/-! ### slices.Index[[]string,string] -/
abbrev q34_ty (R : Type) : Type := (List Str) → Str → (Int → Option R) → Option R
abbrev q34_p : List Pat := [.leaf (.sl .str), .leaf (.str)]
abbrev q34_q : List HPat := []
noncomputable def q34_rr {R : Type} (fn : q34_ty R) : Pat.dens q34_p → HPat.dens q34_q → (V → Heap → Option R) → Option R := fun x y k => fn x.1 x.2.1 (fun q0 => k (.int .i64 q0) [])
abbrev q34_2_0_ty (R : Type) : Type := Nat → (List Str) → Str → Int → Int → (Option R) → (Int → Option R) → Option R
noncomputable def q34_E (R : Type) : Env R := fun i => match i with
  | _ => none
theorem q34_EOk (R : Type) : EOk Tryz.prog (q34_E R) := by
  intro i b sp h
  unfold q34_E at h
  split at h
  · cases h
noncomputable def q34_2_0_B {R : Type} (rec' : (List Str) → Str → Int → Int → Option R) (x3 : List Str) (x4 : Str) (x5 : Int) (x6 : Int) (e0 : Option R) (e1 : Int → Option R) : Option R :=
  bif (decide (x6 < x5)) then (chk (decide ((0 : Int) ≤ x6) && decide (x6 < x3.length)) (bif (x4 == (x3.getD x6.toNat (Ty.dflt .str))) then (e1 x6) else (rec' x3 x4 x5 (IntKind.i64.wrap (x6 + 1))))) else (e0)
noncomputable def q34_2_0_L {R : Type} : q34_2_0_ty R
  | 0, _, _, _, _, _, _ => none
  | n + 1, x0', x1', x2', x3', e0, e1 => q34_2_0_B (fun x0' x1' x2' x3' => q34_2_0_L n x0' x1' x2' x3' e0 e1) x0' x1' x2' x3' e0 e1
noncomputable def q34_2_0_h : Hint := { live := [0, 1, 7, 8], own := [], rows := [], cells := [], drop := [], out := [4] }
abbrev q34_2_0_D : Type := (List Str) × Str × Int × Int
noncomputable def q34_2_0_enc : q34_2_0_D → St := fun d => ⟨[.sl .str d.1 .no, .str d.2.1, .undef, .undef, .undef, .undef, .undef, .int .i64 d.2.2.1, .int .i64 d.2.2.2, .undef, .undef, .undef, .undef, .undef, .undef, .undef, .undef, .undef, .undef], []⟩
noncomputable def q34_2_0_x0 {R : Type} (K : Ex → St → Option R) : Option R := K (.exit 0) ⟨[.undef, .undef, .undef, .undef, .undef, .undef, .undef, .undef, .undef, .undef, .undef, .undef, .undef, .undef, .undef, .undef, .undef, .undef, .undef], []⟩
noncomputable def q34_2_0_x1 {R : Type} (K : Ex → St → Option R) (q0 : Int) : Option R := K (.ret) ⟨[.undef, .undef, .undef, .undef, .int .i64 q0, .undef, .undef, .undef, .undef, .undef, .undef, .undef, .undef, .undef, .undef, .undef, .undef, .undef, .undef], []⟩
noncomputable def q34_2_0_s {R : Type} (K : Ex → St → Option R) (rc : q34_2_0_D → Option R) (d : q34_2_0_D) : Option R := q34_2_0_B (fun z0 z1 z2 z3 => rc (z0, z1, z2, z3)) d.1 d.2.1 d.2.2.1 d.2.2.2 (q34_2_0_x0 K) (q34_2_0_x1 K)
noncomputable def q34_2_0_A {R : Type} (K : Ex → St → Option R) (n : Nat) (d : q34_2_0_D) : Option R := q34_2_0_L n d.1 d.2.1 d.2.2.1 d.2.2.2 (q34_2_0_x0 K) (q34_2_0_x1 K)
abbrev q34_2_0_p : List Pat := [.leaf (.sl .str), .leaf (.str), .leaf (.undef), .leaf (.undef), .leaf (.undef), .leaf (.undef), .leaf (.undef), .leaf (.int .i64), .leaf (.int .i64), .leaf (.undef), .leaf (.undef), .leaf (.undef), .leaf (.undef), .leaf (.undef), .leaf (.undef), .leaf (.undef), .leaf (.undef), .leaf (.undef), .leaf (.undef)]
abbrev q34_2_0_q : List HPat := []
noncomputable def q34_2_0_f (x : Pat.dens q34_2_0_p) (y : HPat.dens q34_2_0_q) : Nat := (List.length x.1 + List.length x.2.1 + Int.natAbs x.2.2.2.2.2.2.2.1 + Int.natAbs x.2.2.2.2.2.2.2.2.1 + 64)
noncomputable def q34_2_0_d (x : Pat.dens q34_2_0_p) (y : HPat.dens q34_2_0_q) : q34_2_0_D := (x.1, x.2.1, x.2.2.2.2.2.2.2.1, x.2.2.2.2.2.2.2.2.1)
noncomputable def q34_2_0_rr {R : Type} (L : q34_2_0_ty R) : Pat.dens q34_2_0_p → HPat.dens q34_2_0_q → (Ex → St → Option R) → Option R := fun x y K => L (q34_2_0_f x y) x.1 x.2.1 x.2.2.2.2.2.2.2.1 x.2.2.2.2.2.2.2.2.1 (q34_2_0_x0 K) (q34_2_0_x1 K)
noncomputable def q34_T (R : Type) (q34_2_0_L : q34_2_0_ty R) : Nat → Option (Hint × LSpec R) := fun i => match i with
  | 2 => some (q34_2_0_h, (loopBy q34_2_0_p q34_2_0_q (q34_2_0_rr q34_2_0_L) loopNo))
  | _ => none
theorem q34_2_0_B_ok {R : Type} (q34_2_0_L : q34_2_0_ty R) (K : Ex → St → Option R) (rc : St → Option R) (d : q34_2_0_D) : roundOf tt (q34_E R) (q34_T R q34_2_0_L) 0 ((loopsOf (codeOf Tryz.f142)).getD 0 .skip) q34_2_0_h (q34_2_0_enc d) rc K = q34_2_0_s K (fun d => rc (q34_2_0_enc d)) d := by kernel_rfl
theorem q34_2_0_A_succ {R : Type} (K : Ex → St → Option R) (n : Nat) (d : q34_2_0_D) : q34_2_0_A K (n + 1) d = q34_2_0_s K (q34_2_0_A K n) d := by kernel_rfl
theorem q34_2_0_A_zero {R : Type} (K : Ex → St → Option R) (d : q34_2_0_D) : q34_2_0_A K 0 d = none := by kernel_rfl
theorem q34_2_0_e_ok (x : Pat.dens q34_2_0_p) (y : HPat.dens q34_2_0_q) : (⟨Pat.encL q34_2_0_p x, HPat.encL q34_2_0_q y⟩ : St) = q34_2_0_enc (q34_2_0_d x y) := by kernel_rfl
theorem q34_2_0_r_ok {R : Type} (x : Pat.dens q34_2_0_p) (y : HPat.dens q34_2_0_q) (K : Ex → St → Option R) : q34_2_0_rr (q34_2_0_L) x y K = q34_2_0_A K (q34_2_0_f x y) (q34_2_0_d x y) := by kernel_rfl
theorem q34_2_0_ok {R : Type} (other : LSpec R) (ho : LsOk tt (q34_E R) (q34_T R q34_2_0_L) 0 ((loopsOf (codeOf Tryz.f142)).getD 0 .skip) q34_2_0_h other) : LsOk tt (q34_E R) (q34_T R q34_2_0_L) 0 ((loopsOf (codeOf Tryz.f142)).getD 0 .skip) q34_2_0_h (loopBy q34_2_0_p q34_2_0_q (q34_2_0_rr (q34_2_0_L)) other) :=
  loopBy_tie (A := q34_2_0_A) ho (loop_tie q34_2_0_enc (q34_2_0_s) (q34_2_0_A) (q34_2_0_A_zero) (q34_2_0_B_ok q34_2_0_L) (q34_2_0_A_succ)) q34_2_0_f q34_2_0_d q34_2_0_e_ok (q34_2_0_r_ok)
noncomputable def q34_X {R : Type} (q34_2_0_L : q34_2_0_ty R) (x1 : List Str) (x2 : Str) (k0 : Int → Option R) : Option R :=
  q34_2_0_L (List.length x1 + List.length x2 + Int.natAbs (x1.length : Int) + Int.natAbs 0 + 64) x1 x2 (x1.length : Int) 0 (k0 (-1)) (fun y7 => k0 y7)
noncomputable def q34 {R : Type} : q34_ty R := fun x1 x2 k0 => q34_X q34_2_0_L x1 x2 k0
theorem q34_ok {R : Type} (q34_2_0_L : q34_2_0_ty R) (x1 : List Str) (x2 : Str) (k : V → Heap → Option R) : funK tt (q34_E R) (q34_T R q34_2_0_L) false Tryz.f142 (codeOf Tryz.f142) [.sl .str x1 .no, .str x2] [] k =
    q34_X q34_2_0_L x1 x2 (fun q0 => k (.int .i64 q0) []) := by kernel_rfl
theorem q34_loops (R : Type) : ∀ a ∈ loopsOf (codeOf Tryz.f142), LoopOk tt (q34_E R) (q34_T R q34_2_0_L) 0 a := by
  refine loops_ok 1 (by kernel_rfl) fun i hi => ?_
  match i, hi with
  | 0, _ => exact loopOk_some (by kernel_rfl) (q34_2_0_ok _ loopNo_ok)
  | n + 1, hi => omega
theorem q34_S_ok (R : Type) (other : Yard.Spec R) (ho : Yard.Spec.Ok Tryz.prog 142 other) : Yard.Spec.Ok Tryz.prog 142 (specBy q34_p q34_q (q34_rr q34) other) :=
  specBy_ok ho (funK_sound TT mixed (q34_EOk R) (keep := false) rfl rfl rfl rfl 0 (q34_loops R)) fun (x : Pat.dens q34_p) (y : HPat.dens q34_q) k => q34_ok q34_2_0_L x.1 x.2.1 k
/-! ### slices.Contains[[]string,string] -/
abbrev q31_ty (R : Type) : Type := (List Str) → Str → (Bool → Option R) → Option R
abbrev q31_p : List Pat := [.leaf (.sl .str), .leaf (.str)]
abbrev q31_q : List HPat := []
noncomputable def q31_rr {R : Type} (fn : q31_ty R) : Pat.dens q31_p → HPat.dens q31_q → (V → Heap → Option R) → Option R := fun x y k => fn x.1 x.2.1 (fun q0 => k (.bool q0) [])
noncomputable def q31_E (R : Type) (q34 : q34_ty R) : Env R := fun i => match i with
  | 142 => some (true, (specBy q34_p q34_q (q34_rr q34) specNo))
  | _ => none
theorem q31_EOk (R : Type) : EOk Tryz.prog (q31_E R q34) := by
  intro i b sp h
  unfold q31_E at h
  split at h
  · cases h; exact ⟨(q34_S_ok R _ (specNo_ok _)), fun h => nomatch h⟩
  · cases h
noncomputable def q31_T (R : Type) : Nat → Option (Hint × LSpec R) := fun i => match i with
  | _ => none
noncomputable def q31_X {R : Type} (q34 : q34_ty R) (x1 : List Str) (x2 : Str) (k0 : Bool → Option R) : Option R :=
  q34 x1 x2 (fun y3 => k0 (decide (y3 ≥ (0 : Int))))
noncomputable def q31 {R : Type} : q31_ty R := fun x1 x2 k0 => q31_X q34 x1 x2 k0
theorem q31_ok {R : Type} (q34 : q34_ty R) (x1 : List Str) (x2 : Str) (k : V → Heap → Option R) : funK tt (q31_E R q34) (q31_T R) false Tryz.f123 (codeOf Tryz.f123) [.sl .str x1 .no, .str x2] [] k =
    q31_X q34 x1 x2 (fun q0 => k (.bool q0) []) := by kernel_rfl
theorem q31_loops (R : Type) : ∀ a ∈ loopsOf (codeOf Tryz.f123), LoopOk tt (q31_E R q34) (q31_T R) 0 a := by
  refine loops_ok 0 (by kernel_rfl) fun i hi => ?_
  omega
theorem q31_S_ok (R : Type) (other : Yard.Spec R) (ho : Yard.Spec.Ok Tryz.prog 123 other) : Yard.Spec.Ok Tryz.prog 123 (specBy q31_p q31_q (q31_rr q31) other) :=
  specBy_ok ho (funK_sound TT mixed (q31_EOk R) (keep := false) rfl rfl rfl rfl 0 (q31_loops R)) fun (x : Pat.dens q31_p) (y : HPat.dens q31_q) k => q31_ok q34 x.1 x.2.1 k
/-! ### (*humpyard/json.parser).name -/
abbrev q47_ty (R : Type) : Type := (List Str) → (List Token) → Int → (Str → (List Token) → Int → Option R) → Option R
abbrev q47_p : List Pat := [.leaf (.ptr 0 0), .leaf (.slo .str 1)]
abbrev q47_q : List HPat := [.cells [.sl .token, .int .i64], .tok]
noncomputable def q47_rr {R : Type} (fn : q47_ty R) : Pat.dens q47_p → HPat.dens q47_q → (V → Heap → Option R) → Option R := fun x y k => fn x.2.1 y.1.1 y.1.2.1 (fun q0 q1 q2 => k (.str q0) [.cells [.sl .token q1 .no, .int .i64 q2], .tok])
noncomputable def q47_E (R : Type) (q51 : q51_ty R) (q49 : q49_ty R) (q31 : q31_ty R) : Env R := fun i => match i with
  | 43 => some (false, (specBy q51_p q51_q (q51_rr q51) specNo))
  | 122 => some (false, (specBy q49_p q49_q (q49_rr q49) specNo))
  | 123 => some (true, (specBy q31_p q31_q (q31_rr q31) specNo))
  | _ => none
theorem q47_EOk (R : Type) : EOk Tryz.prog (q47_E R q51 q49 q31) := by
  intro i b sp h
  unfold q47_E at h
  split at h
  · cases h; exact ⟨(q51_S_ok R _ (specNo_ok _)), fun _ h => nomatch h⟩
  · cases h; exact ⟨(q49_S_ok R _ (specNo_ok _)), fun _ h => nomatch h⟩
  · cases h; exact ⟨(q31_S_ok R _ (specNo_ok _)), fun h => nomatch h⟩
  · cases h
noncomputable def q47_T (R : Type) : Nat → Option (Hint × LSpec R) := fun i => match i with
  | _ => none
noncomputable def q47_X {R : Type} (q51 : q51_ty R) (q49 : q49_ty R) (q31 : q31_ty R) (x1 : List Str) (x2 : List Token) (x3 : Int) (k0 : Str → (List Token) → Int → Option R) : Option R :=
  chk (decide ((0 : Int) < x2.length)) (bif ((x2.getD 0 (Ty.dflt .token)).kind != 2) then (q51 40 x2 x3 (fun y4 y5 => k0 ((x2.getD 0 (Ty.dflt .token)).text) y4 y5)) else (q31 x1 ((x2.getD 0 (Ty.dflt .token)).text) (fun y6 => bif y6 then (q51 42 x2 x3 (fun y7 y8 => k0 ((x2.getD 0 (Ty.dflt .token)).text) y7 y8)) else (chk (decide ((1 : Int) ≤ x2.length)) (q49 ([58] : Str) (x2.drop 1) x3 (fun y9 y10 y11 => bif (!y9) then (q51 40 y10 y11 (fun y12 y13 => k0 ((x2.getD 0 (Ty.dflt .token)).text) y12 y13)) else (k0 ((x2.getD 0 (Ty.dflt .token)).text) y10 y11)))))))
noncomputable def q47 {R : Type} : q47_ty R := fun x1 x2 x3 k0 => q47_X q51 q49 q31 x1 x2 x3 k0
theorem q47_ok {R : Type} (q51 : q51_ty R) (q49 : q49_ty R) (q31 : q31_ty R) (x1 : List Str) (x2 : List Token) (x3 : Int) (k : V → Heap → Option R) : funK (tt.mode [.json]) (q47_E R q51 q49 q31) (q47_T R) false Tryz.f90 (codeOf Tryz.f90) [.ptr 0 0, .sl .str x1 (.own 1)] [.cells [.sl .token x2 .no, .int .i64 x3], .tok] k =
    q47_X q51 q49 q31 x1 x2 x3 (fun q0 q1 q2 => k (.str q0) [.cells [.sl .token q1 .no, .int .i64 q2], .tok]) := by kernel_rfl
theorem q47_loops (R : Type) : ∀ a ∈ loopsOf (codeOf Tryz.f90), LoopOk (tt.mode [.json]) (q47_E R q51 q49 q31) (q47_T R) 2 a := by
  refine loops_ok 0 (by kernel_rfl) fun i hi => ?_
  omega
theorem q47_S_ok (R : Type) (other : Yard.Spec R) (ho : Yard.Spec.Ok Tryz.prog 90 other) : Yard.Spec.Ok Tryz.prog 90 (specBy q47_p q47_q (q47_rr q47) other) :=
  specBy_ok ho (funK_sound (TT.mode [.json]) mixed (q47_EOk R) (keep := false) rfl rfl rfl rfl 2 (q47_loops R)) fun (x : Pat.dens q47_p) (y : HPat.dens q47_q) k => q47_ok q51 q49 q31 x.2.1 y.1.1 y.1.2.1 k
end Go.Proofs.YtmlkkgfenfdndaaGreatDoor
/-
  Functions of the program as pure Lean functions, and the ties; printed by wip/tools/emit.py.
-/
set_option maxRecDepth 100000
namespace Go.Proofs.YtmlkkgfenfdndaaGreatDoor
open Go Go.Yard
/-! ### (*humpyard/json.parser).value -/
abbrev q42_ty (R : Type) : Type := Int → (List Token) → Int → (Json → (List Token) → Int → Option R) → Option R
abbrev q42_p : List Pat := [.leaf (.ptr 0 0), .leaf (.int .i64)]
abbrev q42_q : List HPat := [.cells [.sl .token, .int .i64]]
noncomputable def q42_rr {R : Type} (fn : q42_ty R) : Pat.dens q42_p → HPat.dens q42_q → (V → Heap → Option R) → Option R := fun x y k => fn x.2.1 y.1.1 y.1.2.1 (fun q0 q1 q2 => k (.agg [.int .i64 q0.kind, .int .i64 q0.num.mant, .int .i64 q0.num.exp, .str q0.text, .sl .str q0.names .no, .sl .json q0.items .no]) [.cells [.sl .token q1 .no, .int .i64 q2]])
/-! ### (*humpyard/json.parser).parts$1 -/
abbrev q37_ty (R : Type) : Type := Bool → Int → Int → Int → Str → (List Str) → Nat → Int → (List Json) → (List Token) → Int → (Bool → Int → Int → Int → Str → (List Str) → Nat → Int → (List Token) → Int → (List Json) → Option R) → (Bool → Int → Int → Int → Str → (List Str) → Nat → Int → (List Json) → (List Token) → Int → Option R) → (Bool → Int → Int → Int → Str → (List Str) → Nat → Int → (List Token) → Int → (List Json) → Option R) → (Bool → Int → Int → Int → Str → (List Str) → Nat → Int → (List Json) → (List Token) → Int → Option R) → Option R
abbrev q37_p : List Pat := [.leaf (.ptr 0 0), .leaf (.ptr 1 0), .leaf (.ptr 2 0), .leaf (.ptr 3 0)]
abbrev q37_q : List HPat := [.cells [.bool], .cells [.int .i64, .int .i64, .int .i64, .str, .slo .str 4, .row 5], .cells [.ptr 6 0], .cells [.int .i64], .tok, .row .json, .cells [.sl .token, .int .i64]]
noncomputable def q37_rr {R : Type} (fn : q37_ty R) : Pat.dens q37_p → HPat.dens q37_q → (V → Heap → Option R) → Option R := fun x y k => fn y.1.1 y.2.1.1 y.2.1.2.1 y.2.1.2.2.1 y.2.1.2.2.2.1 y.2.1.2.2.2.2.1 y.2.1.2.2.2.2.2.1 y.2.2.2.1.1 y.2.2.2.2.2.1 y.2.2.2.2.2.2.1.1 y.2.2.2.2.2.2.1.2.1 (fun q0 q1 q2 q3 q4 q5 q6 q7 q8 q9 q10 => k (.tuple []) [.cells [.bool q0], .cells [.int .i64 q1, .int .i64 q2, .int .i64 q3, .str q4, .sl .str q5 (.own 7), .row 8 q6], .cells [.ptr 6 0], .cells [.int .i64 q7], .dead, .dead, .cells [.sl .token q8 .no, .int .i64 q9], .tok, .row .json q10]) (fun q0 q1 q2 q3 q4 q5 q6 q7 q8 q9 q10 => k (.tuple []) [.cells [.bool q0], .cells [.int .i64 q1, .int .i64 q2, .int .i64 q3, .str q4, .sl .str q5 (.own 7), .row 5 q6], .cells [.ptr 6 0], .cells [.int .i64 q7], .dead, .row .json q8, .cells [.sl .token q9 .no, .int .i64 q10], .tok]) (fun q0 q1 q2 q3 q4 q5 q6 q7 q8 q9 q10 => k (.tuple []) [.cells [.bool q0], .cells [.int .i64 q1, .int .i64 q2, .int .i64 q3, .str q4, .sl .str q5 (.own 4), .row 7 q6], .cells [.ptr 6 0], .cells [.int .i64 q7], .tok, .dead, .cells [.sl .token q8 .no, .int .i64 q9], .row .json q10]) (fun q0 q1 q2 q3 q4 q5 q6 q7 q8 q9 q10 => k (.tuple []) [.cells [.bool q0], .cells [.int .i64 q1, .int .i64 q2, .int .i64 q3, .str q4, .sl .str q5 (.own 4), .row 5 q6], .cells [.ptr 6 0], .cells [.int .i64 q7], .tok, .row .json q8, .cells [.sl .token q9 .no, .int .i64 q10]])
noncomputable def q37_E (R : Type) (q47 : q47_ty R) (h_q42 : q42_ty R) : Env R := fun i => match i with
  | 90 => some (false, (specBy q47_p q47_q (q47_rr q47) specNo))
  | 42 => some (false, (specBy q42_p q42_q (q42_rr h_q42) specNo))
  | _ => none
theorem q37_EOk (R : Type) (h_q42 : q42_ty R) (y_q42 : Yard.Spec.Ok Tryz.prog 42 (specBy q42_p q42_q (q42_rr h_q42) specNo)) : EOk Tryz.prog (q37_E R q47 h_q42) := by
  intro i b sp h
  unfold q37_E at h
  split at h
  · cases h; exact ⟨(q47_S_ok R _ (specNo_ok _)), fun _ h => nomatch h⟩
  · cases h; exact ⟨y_q42, fun _ h => nomatch h⟩
  · cases h
noncomputable def q37_T (R : Type) : Nat → Option (Hint × LSpec R) := fun i => match i with
  | _ => none
noncomputable def q37_X {R : Type} (q47 : q47_ty R) (h_q42 : q42_ty R) (x1 : Bool) (x2 : Int) (x3 : Int) (x4 : Int) (x5 : Str) (x6 : List Str) (x7 : Nat) (x8 : Int) (x9 : List Json) (x10 : List Token) (x11 : Int) (k0 : Bool → Int → Int → Int → Str → (List Str) → Nat → Int → (List Token) → Int → (List Json) → Option R) (k1 : Bool → Int → Int → Int → Str → (List Str) → Nat → Int → (List Json) → (List Token) → Int → Option R) (k2 : Bool → Int → Int → Int → Str → (List Str) → Nat → Int → (List Token) → Int → (List Json) → Option R) (k3 : Bool → Int → Int → Int → Str → (List Str) → Nat → Int → (List Json) → (List Token) → Int → Option R) : Option R :=
  bif x1 then (q47 x6 x10 x11 (fun y12 y13 y14 => chk (decide ((x6.length + 1) * 16 ≤ 140737488355328)) (bif (y14 == 0) then (h_q42 (IntKind.i64.wrap (x8 + 1)) y13 y14 (fun y15 y16 y17 => chk (decide ((x9.length + 1) * 88 ≤ 140737488355328)) (chk (decide ((0 : Int) ≤ (x7 : Int)) && decide ((x7 : Int) < (x9.length + 1))) (chk (decide ((x7 : Int).toNat < (x9 ++ ([(⟨0, ⟨0, 0⟩, ([] : Str), ([] : List Str), ([] : List Json)⟩ : Json)] : List Json)).length)) (k0 x1 x2 x3 x4 x5 (x6 ++ ([y12] : List Str)) (x9.length + 1) x8 y16 y17 ((x9 ++ ([(⟨0, ⟨0, 0⟩, ([] : Str), ([] : List Str), ([] : List Json)⟩ : Json)] : List Json)).set ((x7 : Int).toNat) (⟨y15.kind, ⟨y15.num.mant, y15.num.exp⟩, y15.text, y15.names, y15.items⟩ : Json))))))) else (k1 x1 x2 x3 x4 x5 (x6 ++ ([y12] : List Str)) x7 x8 x9 y13 y14)))) else (bif (x11 == 0) then (h_q42 (IntKind.i64.wrap (x8 + 1)) x10 x11 (fun y18 y19 y20 => chk (decide ((x9.length + 1) * 88 ≤ 140737488355328)) (chk (decide ((0 : Int) ≤ (x7 : Int)) && decide ((x7 : Int) < (x9.length + 1))) (chk (decide ((x7 : Int).toNat < (x9 ++ ([(⟨0, ⟨0, 0⟩, ([] : Str), ([] : List Str), ([] : List Json)⟩ : Json)] : List Json)).length)) (k2 x1 x2 x3 x4 x5 x6 (x9.length + 1) x8 y19 y20 ((x9 ++ ([(⟨0, ⟨0, 0⟩, ([] : Str), ([] : List Str), ([] : List Json)⟩ : Json)] : List Json)).set ((x7 : Int).toNat) (⟨y18.kind, ⟨y18.num.mant, y18.num.exp⟩, y18.text, y18.names, y18.items⟩ : Json))))))) else (k3 x1 x2 x3 x4 x5 x6 x7 x8 x9 x10 x11))
noncomputable def q37 {R : Type} (h_q42 : q42_ty R) : q37_ty R := fun x1 x2 x3 x4 x5 x6 x7 x8 x9 x10 x11 k0 k1 k2 k3 => q37_X q47 h_q42 x1 x2 x3 x4 x5 x6 x7 x8 x9 x10 x11 k0 k1 k2 k3
theorem q37_ok {R : Type} (q47 : q47_ty R) (h_q42 : q42_ty R) (x1 : Bool) (x2 : Int) (x3 : Int) (x4 : Int) (x5 : Str) (x6 : List Str) (x7 : Nat) (x8 : Int) (x9 : List Json) (x10 : List Token) (x11 : Int) (k : V → Heap → Option R) : funK (tt.mode [.json]) (q37_E R q47 h_q42) (q37_T R) false Tryz.f89 (codeOf Tryz.f89) [.ptr 0 0, .ptr 1 0, .ptr 2 0, .ptr 3 0] [.cells [.bool x1], .cells [.int .i64 x2, .int .i64 x3, .int .i64 x4, .str x5, .sl .str x6 (.own 4), .row 5 x7], .cells [.ptr 6 0], .cells [.int .i64 x8], .tok, .row .json x9, .cells [.sl .token x10 .no, .int .i64 x11]] k =
    q37_X q47 h_q42 x1 x2 x3 x4 x5 x6 x7 x8 x9 x10 x11 (fun q0 q1 q2 q3 q4 q5 q6 q7 q8 q9 q10 => k (.tuple []) [.cells [.bool q0], .cells [.int .i64 q1, .int .i64 q2, .int .i64 q3, .str q4, .sl .str q5 (.own 7), .row 8 q6], .cells [.ptr 6 0], .cells [.int .i64 q7], .dead, .dead, .cells [.sl .token q8 .no, .int .i64 q9], .tok, .row .json q10]) (fun q0 q1 q2 q3 q4 q5 q6 q7 q8 q9 q10 => k (.tuple []) [.cells [.bool q0], .cells [.int .i64 q1, .int .i64 q2, .int .i64 q3, .str q4, .sl .str q5 (.own 7), .row 5 q6], .cells [.ptr 6 0], .cells [.int .i64 q7], .dead, .row .json q8, .cells [.sl .token q9 .no, .int .i64 q10], .tok]) (fun q0 q1 q2 q3 q4 q5 q6 q7 q8 q9 q10 => k (.tuple []) [.cells [.bool q0], .cells [.int .i64 q1, .int .i64 q2, .int .i64 q3, .str q4, .sl .str q5 (.own 4), .row 7 q6], .cells [.ptr 6 0], .cells [.int .i64 q7], .tok, .dead, .cells [.sl .token q8 .no, .int .i64 q9], .row .json q10]) (fun q0 q1 q2 q3 q4 q5 q6 q7 q8 q9 q10 => k (.tuple []) [.cells [.bool q0], .cells [.int .i64 q1, .int .i64 q2, .int .i64 q3, .str q4, .sl .str q5 (.own 4), .row 5 q6], .cells [.ptr 6 0], .cells [.int .i64 q7], .tok, .row .json q8, .cells [.sl .token q9 .no, .int .i64 q10]]) := by kernel_rfl
theorem q37_loops (R : Type) (h_q42 : q42_ty R) : ∀ a ∈ loopsOf (codeOf Tryz.f89), LoopOk (tt.mode [.json]) (q37_E R q47 h_q42) (q37_T R) 7 a := by
  refine loops_ok 0 (by kernel_rfl) fun i hi => ?_
  omega
theorem q37_S_ok (R : Type) (h_q42 : q42_ty R) (y_q42 : Yard.Spec.Ok Tryz.prog 42 (specBy q42_p q42_q (q42_rr h_q42) specNo)) (other : Yard.Spec R) (ho : Yard.Spec.Ok Tryz.prog 89 other) : Yard.Spec.Ok Tryz.prog 89 (specBy q37_p q37_q (q37_rr (q37 h_q42)) other) :=
  specBy_ok ho (funK_sound (TT.mode [.json]) mixed (q37_EOk R h_q42 y_q42) (keep := false) rfl rfl rfl rfl 7 (q37_loops R h_q42)) fun (x : Pat.dens q37_p) (y : HPat.dens q37_q) k => q37_ok q47 h_q42 y.1.1 y.2.1.1 y.2.1.2.1 y.2.1.2.2.1 y.2.1.2.2.2.1 y.2.1.2.2.2.2.1 y.2.1.2.2.2.2.2.1 y.2.2.2.1.1 y.2.2.2.2.2.1 y.2.2.2.2.2.2.1.1 y.2.2.2.2.2.2.1.2.1 k
/-! ### (*humpyard/json.parser).list -/
abbrev q50_ty (R : Type) : Type := Str → (List Token) → Int → Bool → Int → Int → Int → Str → Int → ((List Token) → Int → Bool → Int → Int → Int → Str → Int → Option R) → ((List Token) → Int → Bool → Int → Int → Int → Str → (List Str) → Nat → Int → (List Json) → Option R) → Option R
abbrev q50_p : List Pat := [.leaf (.ptr 0 0), .leaf (.str), .func 89 [] [.ptr 1 0, .ptr 2 0, .ptr 3 0, .ptr 4 0]]
abbrev q50_q : List HPat := [.cells [.sl .token, .int .i64], .cells [.bool], .cells [.int .i64, .int .i64, .int .i64, .str, .nilsl, .nilsl], .cells [.ptr 0 0], .cells [.int .i64]]
noncomputable def q50_rr {R : Type} (fn : q50_ty R) : Pat.dens q50_p → HPat.dens q50_q → (V → Heap → Option R) → Option R := fun x y k => fn x.2.1 y.1.1 y.1.2.1 y.2.1.1 y.2.2.1.1 y.2.2.1.2.1 y.2.2.1.2.2.1 y.2.2.1.2.2.2.1 y.2.2.2.2.1.1 (fun q0 q1 q2 q3 q4 q5 q6 q7 => k (.tuple []) [.cells [.sl .token q0 .no, .int .i64 q1], .cells [.bool q2], .cells [.int .i64 q3, .int .i64 q4, .int .i64 q5, .str q6, .nilsl, .nilsl], .cells [.ptr 0 0], .cells [.int .i64 q7]]) (fun q0 q1 q2 q3 q4 q5 q6 q7 q8 q9 q10 => k (.tuple []) [.cells [.sl .token q0 .no, .int .i64 q1], .cells [.bool q2], .cells [.int .i64 q3, .int .i64 q4, .int .i64 q5, .str q6, .sl .str q7 (.own 5), .row 6 q8], .cells [.ptr 0 0], .cells [.int .i64 q9], .tok, .row .json q10])
abbrev q50_1_0_ty (R : Type) : Type := Nat → Str → (List Token) → Int → Bool → Int → Int → Int → Str → (List Str) → Nat → Int → (List Json) → ((List Token) → Int → Bool → Int → Int → Int → Str → (List Str) → Nat → Int → (List Json) → Option R) → Option R
noncomputable def q50_E (R : Type) (q51 : q51_ty R) (q37 : q37_ty R) (q49 : q49_ty R) : Env R := fun i => match i with
  | 43 => some (false, (specBy q51_p q51_q (q51_rr q51) specNo))
  | 89 => some (false, (specBy q37_p q37_q (q37_rr q37) specNo))
  | 122 => some (false, (specBy q49_p q49_q (q49_rr q49) specNo))
  | _ => none
theorem q50_EOk (R : Type) (h_q42 : q42_ty R) (y_q42 : Yard.Spec.Ok Tryz.prog 42 (specBy q42_p q42_q (q42_rr h_q42) specNo)) : EOk Tryz.prog (q50_E R q51 (q37 h_q42) q49) := by
  intro i b sp h
  unfold q50_E at h
  split at h
  · cases h; exact ⟨(q51_S_ok R _ (specNo_ok _)), fun _ h => nomatch h⟩
  · cases h; exact ⟨(q37_S_ok R h_q42 y_q42 _ (specNo_ok _)), fun _ h => nomatch h⟩
  · cases h; exact ⟨(q49_S_ok R _ (specNo_ok _)), fun _ h => nomatch h⟩
  · cases h
noncomputable def q50_1_0_B {R : Type} (q51 : q51_ty R) (q37 : q37_ty R) (q49 : q49_ty R) (rec' : Str → (List Token) → Int → Bool → Int → Int → Int → Str → (List Str) → Nat → Int → (List Json) → Option R) (x13 : Str) (x14 : List Token) (x15 : Int) (x16 : Bool) (x17 : Int) (x18 : Int) (x19 : Int) (x20 : Str) (x21 : List Str) (x22 : Nat) (x23 : Int) (x24 : List Json) (e0 : (List Token) → Int → Bool → Int → Int → Int → Str → (List Str) → Nat → Int → (List Json) → Option R) : Option R :=
  q37 x16 x17 x18 x19 x20 x21 x22 x23 x24 x14 x15 (fun y25 y26 y27 y28 y29 y30 y31 y32 y33 y34 y35 => bif (y34 != 0) then (e0 y33 y34 y25 y26 y27 y28 y29 y30 y31 y32 y35) else (q49 x13 y33 y34 (fun y69 y70 y71 => bif y69 then (e0 y70 y71 y25 y26 y27 y28 y29 y30 y31 y32 y35) else (q49 ([44] : Str) y70 y71 (fun y75 y76 y77 => bif (!y75) then (q51 40 y76 y77 (fun y78 y79 => e0 y78 y79 y25 y26 y27 y28 y29 y30 y31 y32 y35)) else (rec' x13 y76 y77 y25 y26 y27 y28 y29 y30 y31 y32 y35)))))) (fun y36 y37 y38 y39 y40 y41 y42 y43 y44 y45 y46 => bif (y46 != 0) then (e0 y45 y46 y36 y37 y38 y39 y40 y41 y42 y43 y44) else (q49 x13 y45 y46 (fun y80 y81 y82 => bif y80 then (e0 y81 y82 y36 y37 y38 y39 y40 y41 y42 y43 y44) else (q49 ([44] : Str) y81 y82 (fun y86 y87 y88 => bif (!y86) then (q51 40 y87 y88 (fun y89 y90 => e0 y89 y90 y36 y37 y38 y39 y40 y41 y42 y43 y44)) else (rec' x13 y87 y88 y36 y37 y38 y39 y40 y41 y42 y43 y44)))))) (fun y47 y48 y49 y50 y51 y52 y53 y54 y55 y56 y57 => bif (y56 != 0) then (e0 y55 y56 y47 y48 y49 y50 y51 y52 y53 y54 y57) else (q49 x13 y55 y56 (fun y91 y92 y93 => bif y91 then (e0 y92 y93 y47 y48 y49 y50 y51 y52 y53 y54 y57) else (q49 ([44] : Str) y92 y93 (fun y97 y98 y99 => bif (!y97) then (q51 40 y98 y99 (fun y100 y101 => e0 y100 y101 y47 y48 y49 y50 y51 y52 y53 y54 y57)) else (rec' x13 y98 y99 y47 y48 y49 y50 y51 y52 y53 y54 y57)))))) (fun y58 y59 y60 y61 y62 y63 y64 y65 y66 y67 y68 => bif (y68 != 0) then (e0 y67 y68 y58 y59 y60 y61 y62 y63 y64 y65 y66) else (q49 x13 y67 y68 (fun y102 y103 y104 => bif y102 then (e0 y103 y104 y58 y59 y60 y61 y62 y63 y64 y65 y66) else (q49 ([44] : Str) y103 y104 (fun y108 y109 y110 => bif (!y108) then (q51 40 y109 y110 (fun y111 y112 => e0 y111 y112 y58 y59 y60 y61 y62 y63 y64 y65 y66)) else (rec' x13 y109 y110 y58 y59 y60 y61 y62 y63 y64 y65 y66))))))
noncomputable def q50_1_0_L {R : Type} (h_q42 : q42_ty R) : q50_1_0_ty R
  | 0, _, _, _, _, _, _, _, _, _, _, _, _, _ => none
  | n + 1, x0', x1', x2', x3', x4', x5', x6', x7', x8', x9', x10', x11', e0 => q50_1_0_B q51 (q37 h_q42) q49 (fun x0' x1' x2' x3' x4' x5' x6' x7' x8' x9' x10' x11' => q50_1_0_L h_q42 n x0' x1' x2' x3' x4' x5' x6' x7' x8' x9' x10' x11' e0) x0' x1' x2' x3' x4' x5' x6' x7' x8' x9' x10' x11' e0
noncomputable def q50_1_0_h : Hint := { live := [0, 1, 2], own := [], rows := [], cells := [(2, 4, .str, false), (2, 5, .json, true)], drop := [], out := [] }
abbrev q50_1_0_D : Type := Str × (List Token) × Int × Bool × Int × Int × Int × Str × (List Str) × Nat × Int × (List Json)
noncomputable def q50_1_0_enc : q50_1_0_D → St := fun d => ⟨[.ptr 0 0, .str d.1, .func 89 [] [.ptr 1 0, .ptr 2 0, .ptr 3 0, .ptr 4 0], .undef, .undef, .undef, .undef, .undef, .undef, .undef, .undef, .undef, .undef, .undef, .undef, .undef, .undef, .undef, .undef, .undef, .undef, .undef, .undef, .undef, .undef, .undef], [.cells [.sl .token d.2.1 .no, .int .i64 d.2.2.1], .cells [.bool d.2.2.2.1], .cells [.int .i64 d.2.2.2.2.1, .int .i64 d.2.2.2.2.2.1, .int .i64 d.2.2.2.2.2.2.1, .str d.2.2.2.2.2.2.2.1, .sl .str d.2.2.2.2.2.2.2.2.1 (.own 5), .row 6 d.2.2.2.2.2.2.2.2.2.1], .cells [.ptr 0 0], .cells [.int .i64 d.2.2.2.2.2.2.2.2.2.2.1], .tok, .row .json d.2.2.2.2.2.2.2.2.2.2.2]⟩
noncomputable def q50_1_0_x0 {R : Type} (K : Ex → St → Option R) (q0 : List Token) (q1 : Int) (q2 : Bool) (q3 : Int) (q4 : Int) (q5 : Int) (q6 : Str) (q7 : List Str) (q8 : Nat) (q9 : Int) (q10 : List Json) : Option R := K (.ret) ⟨[.undef, .undef, .undef, .undef, .undef, .undef, .undef, .undef, .undef, .undef, .undef, .undef, .undef, .undef, .undef, .undef, .undef, .undef, .undef, .undef, .undef, .undef, .undef, .undef, .undef, .undef], [.cells [.sl .token q0 .no, .int .i64 q1], .cells [.bool q2], .cells [.int .i64 q3, .int .i64 q4, .int .i64 q5, .str q6, .sl .str q7 (.own 5), .row 6 q8], .cells [.ptr 0 0], .cells [.int .i64 q9], .tok, .row .json q10]⟩
noncomputable def q50_1_0_s {R : Type} (q51 : q51_ty R) (q37 : q37_ty R) (q49 : q49_ty R) (K : Ex → St → Option R) (rc : q50_1_0_D → Option R) (d : q50_1_0_D) : Option R := q50_1_0_B q51 q37 q49 (fun z0 z1 z2 z3 z4 z5 z6 z7 z8 z9 z10 z11 => rc (z0, z1, z2, z3, z4, z5, z6, z7, z8, z9, z10, z11)) d.1 d.2.1 d.2.2.1 d.2.2.2.1 d.2.2.2.2.1 d.2.2.2.2.2.1 d.2.2.2.2.2.2.1 d.2.2.2.2.2.2.2.1 d.2.2.2.2.2.2.2.2.1 d.2.2.2.2.2.2.2.2.2.1 d.2.2.2.2.2.2.2.2.2.2.1 d.2.2.2.2.2.2.2.2.2.2.2 (q50_1_0_x0 K)
noncomputable def q50_1_0_A {R : Type} (h_q42 : q42_ty R) (K : Ex → St → Option R) (n : Nat) (d : q50_1_0_D) : Option R := q50_1_0_L h_q42 n d.1 d.2.1 d.2.2.1 d.2.2.2.1 d.2.2.2.2.1 d.2.2.2.2.2.1 d.2.2.2.2.2.2.1 d.2.2.2.2.2.2.2.1 d.2.2.2.2.2.2.2.2.1 d.2.2.2.2.2.2.2.2.2.1 d.2.2.2.2.2.2.2.2.2.2.1 d.2.2.2.2.2.2.2.2.2.2.2 (q50_1_0_x0 K)
abbrev q50_1_0_p : List Pat := [.leaf (.ptr 0 0), .leaf (.str), .func 89 [] [.ptr 1 0, .ptr 2 0, .ptr 3 0, .ptr 4 0], .leaf (.undef), .leaf (.undef), .leaf (.undef), .leaf (.undef), .leaf (.undef), .leaf (.undef), .leaf (.undef), .leaf (.undef), .leaf (.undef), .leaf (.undef), .leaf (.undef), .leaf (.undef), .leaf (.undef), .leaf (.undef), .leaf (.undef), .leaf (.undef), .leaf (.undef), .leaf (.undef), .leaf (.undef), .leaf (.undef), .leaf (.undef), .leaf (.undef), .leaf (.undef)]
abbrev q50_1_0_q : List HPat := [.cells [.sl .token, .int .i64], .cells [.bool], .cells [.int .i64, .int .i64, .int .i64, .str, .slo .str 5, .row 6], .cells [.ptr 0 0], .cells [.int .i64], .tok, .row .json]
noncomputable def q50_1_0_f (x : Pat.dens q50_1_0_p) (y : HPat.dens q50_1_0_q) : Nat := (List.length x.2.1 + List.length y.1.1 + Int.natAbs y.1.2.1 + Int.natAbs y.2.2.1.1 + Int.natAbs y.2.2.1.2.1 + Int.natAbs y.2.2.1.2.2.1 + List.length y.2.2.1.2.2.2.1 + List.length y.2.2.1.2.2.2.2.1 + Int.natAbs y.2.2.2.2.1.1 + List.length y.2.2.2.2.2.2.1 + 64)
noncomputable def q50_1_0_d (x : Pat.dens q50_1_0_p) (y : HPat.dens q50_1_0_q) : q50_1_0_D := (x.2.1, y.1.1, y.1.2.1, y.2.1.1, y.2.2.1.1, y.2.2.1.2.1, y.2.2.1.2.2.1, y.2.2.1.2.2.2.1, y.2.2.1.2.2.2.2.1, y.2.2.1.2.2.2.2.2.1, y.2.2.2.2.1.1, y.2.2.2.2.2.2.1)
noncomputable def q50_1_0_rr {R : Type} (L : q50_1_0_ty R) : Pat.dens q50_1_0_p → HPat.dens q50_1_0_q → (Ex → St → Option R) → Option R := fun x y K => L (q50_1_0_f x y) x.2.1 y.1.1 y.1.2.1 y.2.1.1 y.2.2.1.1 y.2.2.1.2.1 y.2.2.1.2.2.1 y.2.2.1.2.2.2.1 y.2.2.1.2.2.2.2.1 y.2.2.1.2.2.2.2.2.1 y.2.2.2.2.1.1 y.2.2.2.2.2.2.1 (q50_1_0_x0 K)
noncomputable def q50_T (R : Type) (q50_1_0_L : q50_1_0_ty R) : Nat → Option (Hint × LSpec R) := fun i => match i with
  | 1 => some (q50_1_0_h, (loopBy q50_1_0_p q50_1_0_q (q50_1_0_rr q50_1_0_L) loopNo))
  | _ => none
theorem q50_1_0_B_ok {R : Type} (q51 : q51_ty R) (q37 : q37_ty R) (q49 : q49_ty R) (q50_1_0_L : q50_1_0_ty R) (K : Ex → St → Option R) (rc : St → Option R) (d : q50_1_0_D) : roundOf (tt.mode [.json]) (q50_E R q51 q37 q49) (q50_T R q50_1_0_L) 5 ((loopsOf (codeOf Tryz.f88)).getD 0 .skip) q50_1_0_h (q50_1_0_enc d) rc K = q50_1_0_s q51 q37 q49 K (fun d => rc (q50_1_0_enc d)) d := by kernel_rfl
theorem q50_1_0_A_succ {R : Type} (h_q42 : q42_ty R) (K : Ex → St → Option R) (n : Nat) (d : q50_1_0_D) : q50_1_0_A h_q42 K (n + 1) d = q50_1_0_s q51 (q37 h_q42) q49 K (q50_1_0_A h_q42 K n) d := by kernel_rfl
theorem q50_1_0_A_zero {R : Type} (h_q42 : q42_ty R) (K : Ex → St → Option R) (d : q50_1_0_D) : q50_1_0_A h_q42 K 0 d = none := by kernel_rfl
theorem q50_1_0_e_ok (x : Pat.dens q50_1_0_p) (y : HPat.dens q50_1_0_q) : (⟨Pat.encL q50_1_0_p x, HPat.encL q50_1_0_q y⟩ : St) = q50_1_0_enc (q50_1_0_d x y) := by kernel_rfl
theorem q50_1_0_r_ok {R : Type} (h_q42 : q42_ty R) (x : Pat.dens q50_1_0_p) (y : HPat.dens q50_1_0_q) (K : Ex → St → Option R) : q50_1_0_rr (q50_1_0_L h_q42) x y K = q50_1_0_A h_q42 K (q50_1_0_f x y) (q50_1_0_d x y) := by kernel_rfl
theorem q50_1_0_ok {R : Type} (h_q42 : q42_ty R) (other : LSpec R) (ho : LsOk (tt.mode [.json]) (q50_E R q51 (q37 h_q42) q49) (q50_T R (q50_1_0_L h_q42)) 5 ((loopsOf (codeOf Tryz.f88)).getD 0 .skip) q50_1_0_h other) : LsOk (tt.mode [.json]) (q50_E R q51 (q37 h_q42) q49) (q50_T R (q50_1_0_L h_q42)) 5 ((loopsOf (codeOf Tryz.f88)).getD 0 .skip) q50_1_0_h (loopBy q50_1_0_p q50_1_0_q (q50_1_0_rr (q50_1_0_L h_q42)) other) :=
  loopBy_tie (A := q50_1_0_A h_q42) ho (loop_tie q50_1_0_enc (q50_1_0_s q51 (q37 h_q42) q49) (q50_1_0_A h_q42) (q50_1_0_A_zero h_q42) (q50_1_0_B_ok q51 (q37 h_q42) q49 (q50_1_0_L h_q42)) (q50_1_0_A_succ h_q42)) q50_1_0_f q50_1_0_d q50_1_0_e_ok (q50_1_0_r_ok h_q42)
noncomputable def q50_X {R : Type} (q49 : q49_ty R) (q50_1_0_L : q50_1_0_ty R) (x1 : Str) (x2 : List Token) (x3 : Int) (x4 : Bool) (x5 : Int) (x6 : Int) (x7 : Int) (x8 : Str) (x9 : Int) (k0 : (List Token) → Int → Bool → Int → Int → Int → Str → Int → Option R) (k1 : (List Token) → Int → Bool → Int → Int → Int → Str → (List Str) → Nat → Int → (List Json) → Option R) : Option R :=
  q49 x1 x2 x3 (fun y10 y11 y12 => bif y10 then (k0 y11 y12 x4 x5 x6 x7 x8 x9) else (q50_1_0_L (List.length x1 + List.length y11 + Int.natAbs y12 + Int.natAbs x5 + Int.natAbs x6 + Int.natAbs x7 + List.length x8 + List.length ([] : List Str) + Int.natAbs x9 + List.length ([] : List Json) + 64) x1 y11 y12 x4 x5 x6 x7 x8 ([] : List Str) 0 x9 ([] : List Json) (fun y113 y114 y115 y116 y117 y118 y119 y120 y121 y122 y123 => k1 y113 y114 y115 y116 y117 y118 y119 y120 y121 y122 y123)))
noncomputable def q50 {R : Type} (h_q42 : q42_ty R) : q50_ty R := fun x1 x2 x3 x4 x5 x6 x7 x8 x9 k0 k1 => q50_X q49 (q50_1_0_L h_q42) x1 x2 x3 x4 x5 x6 x7 x8 x9 k0 k1
theorem q50_ok {R : Type} (q51 : q51_ty R) (q37 : q37_ty R) (q49 : q49_ty R) (q50_1_0_L : q50_1_0_ty R) (x1 : Str) (x2 : List Token) (x3 : Int) (x4 : Bool) (x5 : Int) (x6 : Int) (x7 : Int) (x8 : Str) (x9 : Int) (k : V → Heap → Option R) : funK (tt.mode [.json]) (q50_E R q51 q37 q49) (q50_T R q50_1_0_L) false Tryz.f88 (codeOf Tryz.f88) [.ptr 0 0, .str x1, .func 89 [] [.ptr 1 0, .ptr 2 0, .ptr 3 0, .ptr 4 0]] [.cells [.sl .token x2 .no, .int .i64 x3], .cells [.bool x4], .cells [.int .i64 x5, .int .i64 x6, .int .i64 x7, .str x8, .nilsl, .nilsl], .cells [.ptr 0 0], .cells [.int .i64 x9]] k =
    q50_X q49 q50_1_0_L x1 x2 x3 x4 x5 x6 x7 x8 x9 (fun q0 q1 q2 q3 q4 q5 q6 q7 => k (.tuple []) [.cells [.sl .token q0 .no, .int .i64 q1], .cells [.bool q2], .cells [.int .i64 q3, .int .i64 q4, .int .i64 q5, .str q6, .nilsl, .nilsl], .cells [.ptr 0 0], .cells [.int .i64 q7]]) (fun q0 q1 q2 q3 q4 q5 q6 q7 q8 q9 q10 => k (.tuple []) [.cells [.sl .token q0 .no, .int .i64 q1], .cells [.bool q2], .cells [.int .i64 q3, .int .i64 q4, .int .i64 q5, .str q6, .sl .str q7 (.own 5), .row 6 q8], .cells [.ptr 0 0], .cells [.int .i64 q9], .tok, .row .json q10]) := by kernel_rfl
theorem q50_loops (R : Type) (h_q42 : q42_ty R) : ∀ a ∈ loopsOf (codeOf Tryz.f88), LoopOk (tt.mode [.json]) (q50_E R q51 (q37 h_q42) q49) (q50_T R (q50_1_0_L h_q42)) 5 a := by
  refine loops_ok 1 (by kernel_rfl) fun i hi => ?_
  match i, hi with
  | 0, _ => exact loopOk_some (by kernel_rfl) (q50_1_0_ok h_q42 _ loopNo_ok)
  | n + 1, hi => omega
theorem q50_S_ok (R : Type) (h_q42 : q42_ty R) (y_q42 : Yard.Spec.Ok Tryz.prog 42 (specBy q42_p q42_q (q42_rr h_q42) specNo)) (other : Yard.Spec R) (ho : Yard.Spec.Ok Tryz.prog 88 other) : Yard.Spec.Ok Tryz.prog 88 (specBy q50_p q50_q (q50_rr (q50 h_q42)) other) :=
  specBy_ok ho (funK_sound (TT.mode [.json]) mixed (q50_EOk R h_q42 y_q42) (keep := false) rfl rfl rfl rfl 5 (q50_loops R h_q42)) fun (x : Pat.dens q50_p) (y : HPat.dens q50_q) k => q50_ok q51 (q37 h_q42) q49 (q50_1_0_L h_q42) x.2.1 y.1.1 y.1.2.1 y.2.1.1 y.2.2.1.1 y.2.2.1.2.1 y.2.2.1.2.2.1 y.2.2.1.2.2.2.1 y.2.2.2.2.1.1 k
/-! ### (*humpyard/json.parser).parts -/
abbrev q46_ty (R : Type) : Type := Bool → Int → (List Token) → Int → (Json → (List Token) → Int → Option R) → Option R
abbrev q46_p : List Pat := [.leaf (.ptr 0 0), .leaf (.bool), .leaf (.int .i64)]
abbrev q46_q : List HPat := [.cells [.sl .token, .int .i64]]
noncomputable def q46_rr {R : Type} (fn : q46_ty R) : Pat.dens q46_p → HPat.dens q46_q → (V → Heap → Option R) → Option R := fun x y k => fn x.2.1 x.2.2.1 y.1.1 y.1.2.1 (fun q0 q1 q2 => k (.agg [.int .i64 q0.kind, .int .i64 q0.num.mant, .int .i64 q0.num.exp, .str q0.text, .sl .str q0.names .no, .sl .json q0.items .no]) [.cells [.sl .token q1 .no, .int .i64 q2]])
noncomputable def q46_E (R : Type) (q50 : q50_ty R) : Env R := fun i => match i with
  | 88 => some (false, (specBy q50_p q50_q (q50_rr q50) specNo))
  | _ => none
theorem q46_EOk (R : Type) (h_q42 : q42_ty R) (y_q42 : Yard.Spec.Ok Tryz.prog 42 (specBy q42_p q42_q (q42_rr h_q42) specNo)) : EOk Tryz.prog (q46_E R (q50 h_q42)) := by
  intro i b sp h
  unfold q46_E at h
  split at h
  · cases h; exact ⟨(q50_S_ok R h_q42 y_q42 _ (specNo_ok _)), fun _ h => nomatch h⟩
  · cases h
noncomputable def q46_T (R : Type) : Nat → Option (Hint × LSpec R) := fun i => match i with
  | _ => none
noncomputable def q46_X {R : Type} (q50 : q50_ty R) (x1 : Bool) (x2 : Int) (x3 : List Token) (x4 : Int) (k0 : Json → (List Token) → Int → Option R) : Option R :=
  bif x1 then (q50 ([125] : Str) x3 x4 x1 7 0 0 ([] : Str) x2 (fun y5 y6 y7 y8 y9 y10 y11 y12 => k0 (⟨y8, ⟨y9, y10⟩, y11, ([] : List Str), ([] : List Json)⟩ : Json) y5 y6) (fun y13 y14 y15 y16 y17 y18 y19 y20 y21 y22 y23 => k0 (⟨y16, ⟨y17, y18⟩, y19, y20, y23⟩ : Json) y13 y14)) else (q50 ([93] : Str) x3 x4 x1 6 0 0 ([] : Str) x2 (fun y24 y25 y26 y27 y28 y29 y30 y31 => k0 (⟨y27, ⟨y28, y29⟩, y30, ([] : List Str), ([] : List Json)⟩ : Json) y24 y25) (fun y32 y33 y34 y35 y36 y37 y38 y39 y40 y41 y42 => k0 (⟨y35, ⟨y36, y37⟩, y38, y39, y42⟩ : Json) y32 y33))
noncomputable def q46 {R : Type} (h_q42 : q42_ty R) : q46_ty R := fun x1 x2 x3 x4 k0 => q46_X (q50 h_q42) x1 x2 x3 x4 k0
theorem q46_ok {R : Type} (q50 : q50_ty R) (x1 : Bool) (x2 : Int) (x3 : List Token) (x4 : Int) (k : V → Heap → Option R) : funK (tt.mode [.json]) (q46_E R q50) (q46_T R) false Tryz.f64 (codeOf Tryz.f64) [.ptr 0 0, .bool x1, .int .i64 x2] [.cells [.sl .token x3 .no, .int .i64 x4]] k =
    q46_X q50 x1 x2 x3 x4 (fun q0 q1 q2 => k (.agg [.int .i64 q0.kind, .int .i64 q0.num.mant, .int .i64 q0.num.exp, .str q0.text, .sl .str q0.names .no, .sl .json q0.items .no]) [.cells [.sl .token q1 .no, .int .i64 q2]]) := by kernel_rfl
theorem q46_loops (R : Type) (h_q42 : q42_ty R) : ∀ a ∈ loopsOf (codeOf Tryz.f64), LoopOk (tt.mode [.json]) (q46_E R (q50 h_q42)) (q46_T R) 1 a := by
  refine loops_ok 0 (by kernel_rfl) fun i hi => ?_
  omega
theorem q46_S_ok (R : Type) (h_q42 : q42_ty R) (y_q42 : Yard.Spec.Ok Tryz.prog 42 (specBy q42_p q42_q (q42_rr h_q42) specNo)) (other : Yard.Spec R) (ho : Yard.Spec.Ok Tryz.prog 64 other) : Yard.Spec.Ok Tryz.prog 64 (specBy q46_p q46_q (q46_rr (q46 h_q42)) other) :=
  specBy_ok ho (funK_sound (TT.mode [.json]) mixed (q46_EOk R h_q42 y_q42) (keep := false) rfl rfl rfl rfl 1 (q46_loops R h_q42)) fun (x : Pat.dens q46_p) (y : HPat.dens q46_q) k => q46_ok (q50 h_q42) x.2.1 x.2.2.1 y.1.1 y.1.2.1 k
noncomputable def q42_E (R : Type) (q51 : q51_ty R) (q46 : q46_ty R) : Env R := fun i => match i with
  | 43 => some (false, (specBy q51_p q51_q (q51_rr q51) specNo))
  | 64 => some (false, (specBy q46_p q46_q (q46_rr q46) specNo))
  | _ => none
theorem q42_EOk (R : Type) (h_q42 : q42_ty R) (y_q42 : Yard.Spec.Ok Tryz.prog 42 (specBy q42_p q42_q (q42_rr h_q42) specNo)) : EOk Tryz.prog (q42_E R q51 (q46 h_q42)) := by
  intro i b sp h
  unfold q42_E at h
  split at h
  · cases h; exact ⟨(q51_S_ok R _ (specNo_ok _)), fun _ h => nomatch h⟩
  · cases h; exact ⟨(q46_S_ok R h_q42 y_q42 _ (specNo_ok _)), fun _ h => nomatch h⟩
  · cases h
noncomputable def q42_T (R : Type) : Nat → Option (Hint × LSpec R) := fun i => match i with
  | _ => none
noncomputable def q42_X {R : Type} (q51 : q51_ty R) (q46 : q46_ty R) (x1 : Int) (x2 : List Token) (x3 : Int) (k0 : Json → (List Token) → Int → Option R) : Option R :=
  chk (decide ((0 : Int) < x2.length)) (let j20 := fun (z4 : Bool) => let j19 := fun (z9 : List Token) (z10 : Int) => bif (z10 != 0) then (k0 (⟨0, ⟨0, 0⟩, ([] : Str), ([] : List Str), ([] : List Json)⟩ : Json) z9 z10) else (chk (decide ((1 : Int) ≤ z9.length)) (let j18 := bif ((x2.getD 0 (Ty.dflt .token)).kind == 3) then (k0 (⟨4, ⟨(x2.getD 0 (Ty.dflt .token)).num.mant, (x2.getD 0 (Ty.dflt .token)).num.exp⟩, ([] : Str), ([] : List Str), ([] : List Json)⟩ : Json) (z9.drop 1) z10) else (k0 (⟨5, ⟨0, 0⟩, (x2.getD 0 (Ty.dflt .token)).text, ([] : List Str), ([] : List Json)⟩ : Json) (z9.drop 1) z10); let j17 := fun (z11 : Bool) => bif z11 then (bif ((x2.getD 0 (Ty.dflt .token)).kind == 1) then (q46 ((x2.getD 0 (Ty.dflt .token)).text == ([123] : Str)) x1 (z9.drop 1) z10 (fun y12 y13 y14 => k0 (⟨y12.kind, ⟨y12.num.mant, y12.num.exp⟩, y12.text, y12.names, y12.items⟩ : Json) y13 y14)) else (j18)) else (let j16 := fun (z15 : Bool) => bif z15 then (bif ((x2.getD 0 (Ty.dflt .token)).kind == 4) then (k0 (⟨((mapGet .str (.int .i64) ((x2.getD 0 (Ty.dflt .token)).text) ([(([110, 117, 108, 108] : Str), 1), (([102, 97, 108, 115, 101] : Str), 2), (([116, 114, 117, 101] : Str), 3)] : List (Str × Int))) : Int), ⟨0, 0⟩, ([] : Str), ([] : List Str), ([] : List Json)⟩ : Json) (z9.drop 1) z10) else (j18)) else (j18); bif ((x2.getD 0 (Ty.dflt .token)).text == ([110, 117, 108, 108] : Str)) then (j16 ((x2.getD 0 (Ty.dflt .token)).text == ([110, 117, 108, 108] : Str))) else (bif ((x2.getD 0 (Ty.dflt .token)).text == ([102, 97, 108, 115, 101] : Str)) then (j16 ((x2.getD 0 (Ty.dflt .token)).text == ([102, 97, 108, 115, 101] : Str))) else (j16 ((x2.getD 0 (Ty.dflt .token)).text == ([116, 114, 117, 101] : Str))))); bif ((x2.getD 0 (Ty.dflt .token)).text == ([91] : Str)) then (j17 ((x2.getD 0 (Ty.dflt .token)).text == ([91] : Str))) else (j17 ((x2.getD 0 (Ty.dflt .token)).text == ([123] : Str))))); bif (!z4) then (q51 40 x2 x3 (fun y5 y6 => j19 y5 y6)) else (bif (decide (x1 > (16 : Int))) then (q51 41 x2 x3 (fun y7 y8 => j19 y7 y8)) else (j19 x2 x3)); bif ((x2.getD 0 (Ty.dflt .token)).kind == 2) then (j20 true) else (bif ((x2.getD 0 (Ty.dflt .token)).kind == 3) then (j20 true) else (bif ((x2.getD 0 (Ty.dflt .token)).kind == 4) then (j20 true) else (bif ((x2.getD 0 (Ty.dflt .token)).kind == 1) then (bif ((x2.getD 0 (Ty.dflt .token)).text == ([91] : Str)) then (j20 true) else (j20 ((x2.getD 0 (Ty.dflt .token)).text == ([123] : Str)))) else (j20 false)))))
noncomputable def q42_B {R : Type} (h_q42 : q42_ty R) : q42_ty R := fun x1 x2 x3 k0 => q42_X q51 (q46 h_q42) x1 x2 x3 k0
theorem q42_ok {R : Type} (q51 : q51_ty R) (q46 : q46_ty R) (x1 : Int) (x2 : List Token) (x3 : Int) (k : V → Heap → Option R) : funK (tt.mode [.json]) (q42_E R q51 q46) (q42_T R) false Tryz.f42 (codeOf Tryz.f42) [.ptr 0 0, .int .i64 x1] [.cells [.sl .token x2 .no, .int .i64 x3]] k =
    q42_X q51 q46 x1 x2 x3 (fun q0 q1 q2 => k (.agg [.int .i64 q0.kind, .int .i64 q0.num.mant, .int .i64 q0.num.exp, .str q0.text, .sl .str q0.names .no, .sl .json q0.items .no]) [.cells [.sl .token q1 .no, .int .i64 q2]]) := by kernel_rfl
theorem q42_loops (R : Type) (h_q42 : q42_ty R) : ∀ a ∈ loopsOf (codeOf Tryz.f42), LoopOk (tt.mode [.json]) (q42_E R q51 (q46 h_q42)) (q42_T R) 1 a := by
  refine loops_ok 0 (by kernel_rfl) fun i hi => ?_
  omega
theorem q42_S_okB (R : Type) (h_q42 : q42_ty R) (y_q42 : Yard.Spec.Ok Tryz.prog 42 (specBy q42_p q42_q (q42_rr h_q42) specNo)) (other : Yard.Spec R) (ho : Yard.Spec.Ok Tryz.prog 42 other) : Yard.Spec.Ok Tryz.prog 42 (specBy q42_p q42_q (q42_rr (q42_B h_q42)) other) :=
  specBy_ok ho (funK_sound (TT.mode [.json]) mixed (q42_EOk R h_q42 y_q42) (keep := false) rfl rfl rfl rfl 1 (q42_loops R h_q42)) fun (x : Pat.dens q42_p) (y : HPat.dens q42_q) k => q42_ok q51 (q46 h_q42) x.2.1 y.1.1 y.1.2.1 k
noncomputable def q42_N {R : Type} : Nat → q42_ty R
  | 0, _, _, _, _ => none
  | n + 1, x0', x1', x2', k0' => q42_B (q42_N n) x0' x1' x2' k0'
theorem q42_N_succ {R : Type} (n : Nat) : q42_N (R := R) (n + 1) = q42_B (q42_N n) := by kernel_rfl
theorem q42_N_ok (R : Type) : ∀ n, Yard.Spec.Ok Tryz.prog 42 (specBy q42_p q42_q (q42_rr (q42_N (R := R) n)) specNo) :=
  specBy_fuel (run := fun n => q42_rr (q42_N (R := R) n)) (fun x y k => by kernel_rfl) fun n hyp => q42_S_okB R (q42_N n) hyp specNo (specNo_ok _)
noncomputable def q42 {R : Type} : q42_ty R := fun x1 x2 x3 k0 => q42_N 40 x1 x2 x3 k0
theorem q42_r_ok (R : Type) : q42_rr (R := R) q42 = fun x y k => q42_rr (q42_N 40) x y k := by kernel_rfl
theorem q42_S_ok (R : Type) (other : Yard.Spec R) (ho : Yard.Spec.Ok Tryz.prog 42 other) : Yard.Spec.Ok Tryz.prog 42 (specBy q42_p q42_q (q42_rr q42) other) :=
  specBy_run (specBy_at (run := fun n => q42_rr (q42_N (R := R) n)) (fun x y => 40) ho (q42_N_ok R)) (q42_r_ok R)
end Go.Proofs.YtmlkkgfenfdndaaGreatDoor
/-
  Functions of the program as pure Lean functions, and the ties; printed by wip/tools/emit.py.
-/
set_option maxRecDepth 100000
namespace Go.Proofs.YtmlkkgfenfdndaaGreatDoor
open Go Go.Yard
/-! ### humpyard/json.Parse -/
abbrev q81_ty (R : Type) : Type := Str → (Json → Int → Int → Option R) → Option R
abbrev q81_p : List Pat := [.leaf (.str)]
abbrev q81_q : List HPat := []
noncomputable def q81_rr {R : Type} (fn : q81_ty R) : Pat.dens q81_p → HPat.dens q81_q → (V → Heap → Option R) → Option R := fun x y k => fn x.1 (fun q0 q1 q2 => k (.tuple [.agg [.int .i64 q0.kind, .int .i64 q0.num.mant, .int .i64 q0.num.exp, .str q0.text, .sl .str q0.names .no, .sl .json q0.items .no], .int .i64 q1, .int .i64 q2]) [])
noncomputable def q81_E (R : Type) (q51 : q51_ty R) (q42 : q42_ty R) (q76 : q76_ty R) : Env R := fun i => match i with
  | 43 => some (false, (specBy q51_p q51_q (q51_rr q51) specNo))
  | 42 => some (false, (specBy q42_p q42_q (q42_rr q42) specNo))
  | 25 => some (true, (specBy q76_p q76_q (q76_rr q76) specNo))
  | _ => none
theorem q81_EOk (R : Type) : EOk Tryz.prog (q81_E R q51 q42 q76) := by
  intro i b sp h
  unfold q81_E at h
  split at h
  · cases h; exact ⟨(q51_S_ok R _ (specNo_ok _)), fun _ h => nomatch h⟩
  · cases h; exact ⟨(q42_S_ok R _ (specNo_ok _)), fun _ h => nomatch h⟩
  · cases h; exact ⟨(q76_S_ok R _ (specNo_ok _)), fun h => nomatch h⟩
  · cases h
noncomputable def q81_T (R : Type) : Nat → Option (Hint × LSpec R) := fun i => match i with
  | _ => none
noncomputable def q81_X {R : Type} (q51 : q51_ty R) (q42 : q42_ty R) (q76 : q76_ty R) (x1 : Str) (k0 : Json → Int → Int → Option R) : Option R :=
  q76 x1 (fun y2 y3 y4 => bif (y3 != 0) then (k0 (⟨0, ⟨0, 0⟩, ([] : Str), ([] : List Str), ([] : List Json)⟩ : Json) y3 y4) else (q42 1 y2 0 (fun y5 y6 y7 => let j12 := fun (z10 : List Token) (z11 : Int) => bif (z11 != 0) then (chk (decide ((0 : Int) < z10.length)) (k0 (⟨0, ⟨0, 0⟩, ([] : Str), ([] : List Str), ([] : List Json)⟩ : Json) z11 ((z10.getD 0 (Ty.dflt .token)).at_))) else (k0 (⟨y5.kind, ⟨y5.num.mant, y5.num.exp⟩, y5.text, y5.names, y5.items⟩ : Json) 0 0); chk (decide ((0 : Int) < y6.length)) (bif ((y6.getD 0 (Ty.dflt .token)).kind != 5) then (q51 40 y6 y7 (fun y8 y9 => j12 y8 y9)) else (j12 y6 y7)))))
noncomputable def q81 {R : Type} : q81_ty R := fun x1 k0 => q81_X q51 q42 q76 x1 k0
theorem q81_ok {R : Type} (q51 : q51_ty R) (q42 : q42_ty R) (q76 : q76_ty R) (x1 : Str) (k : V → Heap → Option R) : funK tt (q81_E R q51 q42 q76) (q81_T R) false Tryz.f20 (codeOf Tryz.f20) [.str x1] [] k =
    q81_X q51 q42 q76 x1 (fun q0 q1 q2 => k (.tuple [.agg [.int .i64 q0.kind, .int .i64 q0.num.mant, .int .i64 q0.num.exp, .str q0.text, .sl .str q0.names .no, .sl .json q0.items .no], .int .i64 q1, .int .i64 q2]) []) := by kernel_rfl
theorem q81_loops (R : Type) : ∀ a ∈ loopsOf (codeOf Tryz.f20), LoopOk tt (q81_E R q51 q42 q76) (q81_T R) 0 a := by
  refine loops_ok 0 (by kernel_rfl) fun i hi => ?_
  omega
theorem q81_S_ok (R : Type) (other : Yard.Spec R) (ho : Yard.Spec.Ok Tryz.prog 20 other) : Yard.Spec.Ok Tryz.prog 20 (specBy q81_p q81_q (q81_rr q81) other) :=
  specBy_ok ho (funK_sound TT mixed (q81_EOk R) (keep := false) rfl rfl rfl rfl 0 (q81_loops R)) fun (x : Pat.dens q81_p) (y : HPat.dens q81_q) k => q81_ok q51 q42 q76 x.1 k
/-! ### humpyard/json.bare -/
abbrev q86_ty (R : Type) : Type := Json → (Json → Option R) → Option R
abbrev q86_p : List Pat := [.agg [.int .i64, .int .i64, .int .i64, .str, .sl .str, .sl .json]]
abbrev q86_q : List HPat := []
noncomputable def q86_rr {R : Type} (fn : q86_ty R) : Pat.dens q86_p → HPat.dens q86_q → (V → Heap → Option R) → Option R := fun x y k => fn (⟨x.1.1, ⟨x.1.2.1, x.1.2.2.1⟩, x.1.2.2.2.1, x.1.2.2.2.2.1, x.1.2.2.2.2.2.1⟩ : Json) (fun q0 => k (.agg [.int .i64 q0.kind, .int .i64 q0.num.mant, .int .i64 q0.num.exp, .str q0.text, .sl .str q0.names .no, .sl .json q0.items .no]) [])
noncomputable def q86_E (R : Type) : Env R := fun i => match i with
  | _ => none
theorem q86_EOk (R : Type) : EOk Tryz.prog (q86_E R) := by
  intro i b sp h
  unfold q86_E at h
  split at h
  · cases h
noncomputable def q86_T (R : Type) : Nat → Option (Hint × LSpec R) := fun i => match i with
  | _ => none
noncomputable def q86_X {R : Type} (x1 : Json) (k0 : Json → Option R) : Option R :=
  bif (x1.kind == 4) then (k0 (⟨x1.kind, ⟨0, 0⟩, x1.text, x1.names, x1.items⟩ : Json)) else (bif (x1.kind == 5) then (k0 (⟨x1.kind, ⟨x1.num.mant, x1.num.exp⟩, ([] : Str), x1.names, x1.items⟩ : Json)) else (bif (x1.kind == 7) then (k0 (⟨x1.kind, ⟨x1.num.mant, x1.num.exp⟩, x1.text, ([] : List Str), ([] : List Json)⟩ : Json)) else (bif (x1.kind == 6) then (k0 (⟨x1.kind, ⟨x1.num.mant, x1.num.exp⟩, x1.text, x1.names, ([] : List Json)⟩ : Json)) else (k0 (⟨x1.kind, ⟨x1.num.mant, x1.num.exp⟩, x1.text, x1.names, x1.items⟩ : Json)))))
noncomputable def q86 {R : Type} : q86_ty R := fun x1 k0 => q86_X x1 k0
theorem q86_ok {R : Type} (x1 : Json) (k : V → Heap → Option R) : funK tt (q86_E R) (q86_T R) false Tryz.f77 (codeOf Tryz.f77) [.agg [.int .i64 x1.kind, .int .i64 x1.num.mant, .int .i64 x1.num.exp, .str x1.text, .sl .str x1.names .no, .sl .json x1.items .no]] [] k =
    q86_X x1 (fun q0 => k (.agg [.int .i64 q0.kind, .int .i64 q0.num.mant, .int .i64 q0.num.exp, .str q0.text, .sl .str q0.names .no, .sl .json q0.items .no]) []) := by kernel_rfl
theorem q86_loops (R : Type) : ∀ a ∈ loopsOf (codeOf Tryz.f77), LoopOk tt (q86_E R) (q86_T R) 0 a := by
  refine loops_ok 0 (by kernel_rfl) fun i hi => ?_
  omega
theorem q86_S_ok (R : Type) (other : Yard.Spec R) (ho : Yard.Spec.Ok Tryz.prog 77 other) : Yard.Spec.Ok Tryz.prog 77 (specBy q86_p q86_q (q86_rr q86) other) :=
  specBy_ok ho (funK_sound TT mixed (q86_EOk R) (keep := false) rfl rfl rfl rfl 0 (q86_loops R)) fun (x : Pat.dens q86_p) (y : HPat.dens q86_q) k => q86_ok (⟨x.1.1, ⟨x.1.2.1, x.1.2.2.1⟩, x.1.2.2.2.1, x.1.2.2.2.2.1, x.1.2.2.2.2.2.1⟩ : Json) k
/-! ### humpyard/json.unique -/
abbrev q69_ty (R : Type) : Type := (List Str) → (Bool → Option R) → Option R
abbrev q69_p : List Pat := [.leaf (.sl .str)]
abbrev q69_q : List HPat := []
noncomputable def q69_rr {R : Type} (fn : q69_ty R) : Pat.dens q69_p → HPat.dens q69_q → (V → Heap → Option R) → Option R := fun x y k => fn x.1 (fun q0 => k (.bool q0) [])
abbrev q69_3_0_ty (R : Type) : Type := Nat → (List Str) → Int → Int → (List (Str × Bool)) → (Option R) → (Bool → Option R) → Option R
noncomputable def q69_E (R : Type) (q68 : q68_ty R) : Env R := fun i => match i with
  | 49 => some (true, (specBy q68_p q68_q (q68_rr q68) specNo))
  | _ => none
theorem q69_EOk (R : Type) : EOk Tryz.prog (q69_E R q68) := by
  intro i b sp h
  unfold q69_E at h
  split at h
  · cases h; exact ⟨(q68_S_ok R _ (specNo_ok _)), fun h => nomatch h⟩
  · cases h
noncomputable def q69_3_0_B {R : Type} (q68 : q68_ty R) (rec' : (List Str) → Int → Int → (List (Str × Bool)) → Option R) (x2 : List Str) (x3 : Int) (x4 : Int) (x5 : List (Str × Bool)) (e0 : Option R) (e1 : Bool → Option R) : Option R :=
  bif (decide (x4 < x3)) then (chk (decide ((0 : Int) ≤ x4) && decide (x4 < x2.length)) (bif (mapGet .str .bool (x2.getD x4.toNat (Ty.dflt .str)) x5) then (e1 false) else (q68 (x2.getD x4.toNat (Ty.dflt .str)) (fun y6 => bif (!y6) then (e1 false) else (rec' x2 x3 (IntKind.i64.wrap (x4 + 1)) (mapPut .str .bool (x2.getD x4.toNat (Ty.dflt .str)) true x5)))))) else (e0)
noncomputable def q69_3_0_L {R : Type} : q69_3_0_ty R
  | 0, _, _, _, _, _, _ => none
  | n + 1, x0', x1', x2', x3', e0, e1 => q69_3_0_B q68 (fun x0' x1' x2' x3' => q69_3_0_L n x0' x1' x2' x3' e0 e1) x0' x1' x2' x3' e0 e1
noncomputable def q69_3_0_h : Hint := { live := [3, 7, 8, 9], own := [], rows := [], cells := [], drop := [], out := [2] }
abbrev q69_3_0_D : Type := (List Str) × Int × Int × (List (Str × Bool))
noncomputable def q69_3_0_enc : q69_3_0_D → St := fun d => ⟨[.undef, .undef, .undef, .map 0, .undef, .undef, .undef, .sl .str d.1 .no, .int .i64 d.2.1, .int .i64 d.2.2.1, .undef, .undef, .undef, .undef, .undef, .undef, .undef, .undef, .undef, .undef, .undef, .undef, .undef, .undef], [.amap .str .bool d.2.2.2]⟩
noncomputable def q69_3_0_x0 {R : Type} (K : Ex → St → Option R) : Option R := K (.exit 0) ⟨[.undef, .undef, .undef, .undef, .undef, .undef, .undef, .undef, .undef, .undef, .undef, .undef, .undef, .undef, .undef, .undef, .undef, .undef, .undef, .undef, .undef, .undef, .undef, .undef], []⟩
noncomputable def q69_3_0_x1 {R : Type} (K : Ex → St → Option R) (q0 : Bool) : Option R := K (.ret) ⟨[.undef, .undef, .bool q0, .undef, .undef, .undef, .undef, .undef, .undef, .undef, .undef, .undef, .undef, .undef, .undef, .undef, .undef, .undef, .undef, .undef, .undef, .undef, .undef, .undef], []⟩
noncomputable def q69_3_0_s {R : Type} (q68 : q68_ty R) (K : Ex → St → Option R) (rc : q69_3_0_D → Option R) (d : q69_3_0_D) : Option R := q69_3_0_B q68 (fun z0 z1 z2 z3 => rc (z0, z1, z2, z3)) d.1 d.2.1 d.2.2.1 d.2.2.2 (q69_3_0_x0 K) (q69_3_0_x1 K)
noncomputable def q69_3_0_A {R : Type} (K : Ex → St → Option R) (n : Nat) (d : q69_3_0_D) : Option R := q69_3_0_L n d.1 d.2.1 d.2.2.1 d.2.2.2 (q69_3_0_x0 K) (q69_3_0_x1 K)
abbrev q69_3_0_p : List Pat := [.leaf (.undef), .leaf (.undef), .leaf (.undef), .leaf (.map 0), .leaf (.undef), .leaf (.undef), .leaf (.undef), .leaf (.sl .str), .leaf (.int .i64), .leaf (.int .i64), .leaf (.undef), .leaf (.undef), .leaf (.undef), .leaf (.undef), .leaf (.undef), .leaf (.undef), .leaf (.undef), .leaf (.undef), .leaf (.undef), .leaf (.undef), .leaf (.undef), .leaf (.undef), .leaf (.undef), .leaf (.undef)]
abbrev q69_3_0_q : List HPat := [.amap .str .bool]
noncomputable def q69_3_0_f (x : Pat.dens q69_3_0_p) (y : HPat.dens q69_3_0_q) : Nat := (List.length x.2.2.2.2.2.2.2.1 + Int.natAbs x.2.2.2.2.2.2.2.2.1 + Int.natAbs x.2.2.2.2.2.2.2.2.2.1 + List.length y.1 + 64)
noncomputable def q69_3_0_d (x : Pat.dens q69_3_0_p) (y : HPat.dens q69_3_0_q) : q69_3_0_D := (x.2.2.2.2.2.2.2.1, x.2.2.2.2.2.2.2.2.1, x.2.2.2.2.2.2.2.2.2.1, y.1)
noncomputable def q69_3_0_rr {R : Type} (L : q69_3_0_ty R) : Pat.dens q69_3_0_p → HPat.dens q69_3_0_q → (Ex → St → Option R) → Option R := fun x y K => L (q69_3_0_f x y) x.2.2.2.2.2.2.2.1 x.2.2.2.2.2.2.2.2.1 x.2.2.2.2.2.2.2.2.2.1 y.1 (q69_3_0_x0 K) (q69_3_0_x1 K)
noncomputable def q69_T (R : Type) (q69_3_0_L : q69_3_0_ty R) : Nat → Option (Hint × LSpec R) := fun i => match i with
  | 3 => some (q69_3_0_h, (loopBy q69_3_0_p q69_3_0_q (q69_3_0_rr q69_3_0_L) loopNo))
  | _ => none
theorem q69_3_0_B_ok {R : Type} (q68 : q68_ty R) (q69_3_0_L : q69_3_0_ty R) (K : Ex → St → Option R) (rc : St → Option R) (d : q69_3_0_D) : roundOf tt (q69_E R q68) (q69_T R q69_3_0_L) 0 ((loopsOf (codeOf Tryz.f78)).getD 0 .skip) q69_3_0_h (q69_3_0_enc d) rc K = q69_3_0_s q68 K (fun d => rc (q69_3_0_enc d)) d := by kernel_rfl
theorem q69_3_0_A_succ {R : Type} (K : Ex → St → Option R) (n : Nat) (d : q69_3_0_D) : q69_3_0_A K (n + 1) d = q69_3_0_s q68 K (q69_3_0_A K n) d := by kernel_rfl
theorem q69_3_0_A_zero {R : Type} (K : Ex → St → Option R) (d : q69_3_0_D) : q69_3_0_A K 0 d = none := by kernel_rfl
theorem q69_3_0_e_ok (x : Pat.dens q69_3_0_p) (y : HPat.dens q69_3_0_q) : (⟨Pat.encL q69_3_0_p x, HPat.encL q69_3_0_q y⟩ : St) = q69_3_0_enc (q69_3_0_d x y) := by kernel_rfl
theorem q69_3_0_r_ok {R : Type} (x : Pat.dens q69_3_0_p) (y : HPat.dens q69_3_0_q) (K : Ex → St → Option R) : q69_3_0_rr (q69_3_0_L) x y K = q69_3_0_A K (q69_3_0_f x y) (q69_3_0_d x y) := by kernel_rfl
theorem q69_3_0_ok {R : Type} (other : LSpec R) (ho : LsOk tt (q69_E R q68) (q69_T R q69_3_0_L) 0 ((loopsOf (codeOf Tryz.f78)).getD 0 .skip) q69_3_0_h other) : LsOk tt (q69_E R q68) (q69_T R q69_3_0_L) 0 ((loopsOf (codeOf Tryz.f78)).getD 0 .skip) q69_3_0_h (loopBy q69_3_0_p q69_3_0_q (q69_3_0_rr (q69_3_0_L)) other) :=
  loopBy_tie (A := q69_3_0_A) ho (loop_tie q69_3_0_enc (q69_3_0_s q68) (q69_3_0_A) (q69_3_0_A_zero) (q69_3_0_B_ok q68 q69_3_0_L) (q69_3_0_A_succ)) q69_3_0_f q69_3_0_d q69_3_0_e_ok (q69_3_0_r_ok)
noncomputable def q69_X {R : Type} (q69_3_0_L : q69_3_0_ty R) (x1 : List Str) (k0 : Bool → Option R) : Option R :=
  q69_3_0_L (List.length x1 + Int.natAbs (x1.length : Int) + Int.natAbs 0 + List.length ([] : List (Str × Bool)) + 64) x1 (x1.length : Int) 0 ([] : List (Str × Bool)) (k0 true) (fun y8 => k0 y8)
noncomputable def q69 {R : Type} : q69_ty R := fun x1 k0 => q69_X q69_3_0_L x1 k0
theorem q69_ok {R : Type} (q68 : q68_ty R) (q69_3_0_L : q69_3_0_ty R) (x1 : List Str) (k : V → Heap → Option R) : funK tt (q69_E R q68) (q69_T R q69_3_0_L) false Tryz.f78 (codeOf Tryz.f78) [.sl .str x1 .no] [] k =
    q69_X q69_3_0_L x1 (fun q0 => k (.bool q0) []) := by kernel_rfl
theorem q69_loops (R : Type) : ∀ a ∈ loopsOf (codeOf Tryz.f78), LoopOk tt (q69_E R q68) (q69_T R q69_3_0_L) 0 a := by
  refine loops_ok 1 (by kernel_rfl) fun i hi => ?_
  match i, hi with
  | 0, _ => exact loopOk_some (by kernel_rfl) (q69_3_0_ok _ loopNo_ok)
  | n + 1, hi => omega
theorem q69_S_ok (R : Type) (other : Yard.Spec R) (ho : Yard.Spec.Ok Tryz.prog 78 other) : Yard.Spec.Ok Tryz.prog 78 (specBy q69_p q69_q (q69_rr q69) other) :=
  specBy_ok ho (funK_sound TT mixed (q69_EOk R) (keep := false) rfl rfl rfl rfl 0 (q69_loops R)) fun (x : Pat.dens q69_p) (y : HPat.dens q69_q) k => q69_ok q68 q69_3_0_L x.1 k
end Go.Proofs.YtmlkkgfenfdndaaGreatDoor
