/-
  JsonApart, part 9 of 10.
-/
import Derived.Test.YtmlkkgfenfdndaaGreatDoorJsonApartB8
set_option linter.unusedSimpArgs false
set_option linter.unnecessarySimpa false
set_option linter.unusedVariables false
set_option linter.unusedSectionVars false
/-
  Functions of the program as pure Lean functions, and the ties; printed by wip/tools/emit.py.
-/
set_option maxRecDepth 100000
namespace Go.Proofs.YtmlkkgfenfdndaaGreatDoor
open Go Go.Yard
/-! ### humpyard/json.right -/
abbrev q80_ty (R : Type) : Type := Json → Int → (Bool → Option R) → Option R
abbrev q80_p : List Pat := [.agg [.int .i64, .int .i64, .int .i64, .str, .sl .str, .sl .json], .leaf (.int .i64)]
abbrev q80_q : List HPat := []
noncomputable def q80_rr {R : Type} (fn : q80_ty R) : Pat.dens q80_p → HPat.dens q80_q → (V → Heap → Option R) → Option R := fun x y k => fn (⟨x.1.1, ⟨x.1.2.1, x.1.2.2.1⟩, x.1.2.2.2.1, x.1.2.2.2.2.1, x.1.2.2.2.2.2.1⟩ : Json) x.2.1 (fun q0 => k (.bool q0) [])
/-! ### humpyard/json.right$1 -/
abbrev q54_ty (R : Type) : Type := Json → Int → (Bool → Int → Option R) → Option R
abbrev q54_p : List Pat := [.agg [.int .i64, .int .i64, .int .i64, .str, .sl .str, .sl .json], .leaf (.ptr 0 0)]
abbrev q54_q : List HPat := [.cells [.int .i64]]
noncomputable def q54_rr {R : Type} (fn : q54_ty R) : Pat.dens q54_p → HPat.dens q54_q → (V → Heap → Option R) → Option R := fun x y k => fn (⟨x.1.1, ⟨x.1.2.1, x.1.2.2.1⟩, x.1.2.2.2.1, x.1.2.2.2.2.1, x.1.2.2.2.2.2.1⟩ : Json) y.1.1 (fun q0 q1 => k (.bool q0) [.cells [.int .i64 q1]])
noncomputable def q54_E (R : Type) (h_q80 : q80_ty R) : Env R := fun i => match i with
  | 56 => some (true, (specBy q80_p q80_q (q80_rr h_q80) specNo))
  | _ => none
theorem q54_EOk (R : Type) (h_q80 : q80_ty R) (y_q80 : Yard.Spec.Ok Tryz.prog 56 (specBy q80_p q80_q (q80_rr h_q80) specNo)) : EOk Tryz.prog (q54_E R h_q80) := by
  intro i b sp h
  unfold q54_E at h
  split at h
  · cases h; exact ⟨y_q80, fun h => nomatch h⟩
  · cases h
noncomputable def q54_T (R : Type) : Nat → Option (Hint × LSpec R) := fun i => match i with
  | _ => none
noncomputable def q54_X {R : Type} (h_q80 : q80_ty R) (x1 : Json) (x2 : Int) (k0 : Bool → Int → Option R) : Option R :=
  h_q80 (⟨x1.kind, ⟨x1.num.mant, x1.num.exp⟩, x1.text, x1.names, x1.items⟩ : Json) (IntKind.i64.wrap (x2 + 1)) (fun y3 => k0 (!y3) x2)
noncomputable def q54 {R : Type} (h_q80 : q80_ty R) : q54_ty R := fun x1 x2 k0 => q54_X h_q80 x1 x2 k0
theorem q54_ok {R : Type} (h_q80 : q80_ty R) (x1 : Json) (x2 : Int) (k : V → Heap → Option R) : funK tt (q54_E R h_q80) (q54_T R) false Tryz.f80 (codeOf Tryz.f80) [.agg [.int .i64 x1.kind, .int .i64 x1.num.mant, .int .i64 x1.num.exp, .str x1.text, .sl .str x1.names .no, .sl .json x1.items .no], .ptr 0 0] [.cells [.int .i64 x2]] k =
    q54_X h_q80 x1 x2 (fun q0 q1 => k (.bool q0) [.cells [.int .i64 q1]]) := by kernel_rfl
theorem q54_loops (R : Type) (h_q80 : q80_ty R) : ∀ a ∈ loopsOf (codeOf Tryz.f80), LoopOk tt (q54_E R h_q80) (q54_T R) 1 a := by
  refine loops_ok 0 (by kernel_rfl) fun i hi => ?_
  omega
theorem q54_S_ok (R : Type) (h_q80 : q80_ty R) (y_q80 : Yard.Spec.Ok Tryz.prog 56 (specBy q80_p q80_q (q80_rr h_q80) specNo)) (other : Yard.Spec R) (ho : Yard.Spec.Ok Tryz.prog 80 other) : Yard.Spec.Ok Tryz.prog 80 (specBy q54_p q54_q (q54_rr (q54 h_q80)) other) :=
  specBy_ok ho (funK_sound TT mixed (q54_EOk R h_q80 y_q80) (keep := false) rfl rfl rfl rfl 1 (q54_loops R h_q80)) fun (x : Pat.dens q54_p) (y : HPat.dens q54_q) k => q54_ok h_q80 (⟨x.1.1, ⟨x.1.2.1, x.1.2.2.1⟩, x.1.2.2.2.1, x.1.2.2.2.2.1, x.1.2.2.2.2.2.1⟩ : Json) y.1.1 k
/-! ### slices.IndexFunc[[]humpyard/api.Json,humpyard/api.Json] -/
abbrev q23_ty (R : Type) : Type := (List Json) → Int → (Int → Int → Option R) → Option R
abbrev q23_p : List Pat := [.leaf (.sl .json), .func 80 [] [.ptr 0 0]]
abbrev q23_q : List HPat := [.cells [.int .i64]]
noncomputable def q23_rr {R : Type} (fn : q23_ty R) : Pat.dens q23_p → HPat.dens q23_q → (V → Heap → Option R) → Option R := fun x y k => fn x.1 y.1.1 (fun q0 q1 => k (.int .i64 q0) [.cells [.int .i64 q1]])
abbrev q23_2_0_ty (R : Type) : Type := Nat → (List Json) → Int → Int → Int → (Int → Option R) → (Int → Int → Option R) → Option R
noncomputable def q23_E (R : Type) (q54 : q54_ty R) : Env R := fun i => match i with
  | 80 => some (false, (specBy q54_p q54_q (q54_rr q54) specNo))
  | _ => none
theorem q23_EOk (R : Type) (h_q80 : q80_ty R) (y_q80 : Yard.Spec.Ok Tryz.prog 56 (specBy q80_p q80_q (q80_rr h_q80) specNo)) : EOk Tryz.prog (q23_E R (q54 h_q80)) := by
  intro i b sp h
  unfold q23_E at h
  split at h
  · cases h; exact ⟨(q54_S_ok R h_q80 y_q80 _ (specNo_ok _)), fun _ h => nomatch h⟩
  · cases h
noncomputable def q23_2_0_B {R : Type} (q54 : q54_ty R) (rec' : (List Json) → Int → Int → Int → Option R) (x3 : List Json) (x4 : Int) (x5 : Int) (x6 : Int) (e0 : Int → Option R) (e1 : Int → Int → Option R) : Option R :=
  bif (decide (x5 < x4)) then (chk (decide ((0 : Int) ≤ x5) && decide (x5 < x3.length)) (q54 (⟨(x3.getD x5.toNat (Ty.dflt .json)).kind, ⟨(x3.getD x5.toNat (Ty.dflt .json)).num.mant, (x3.getD x5.toNat (Ty.dflt .json)).num.exp⟩, (x3.getD x5.toNat (Ty.dflt .json)).text, (x3.getD x5.toNat (Ty.dflt .json)).names, (x3.getD x5.toNat (Ty.dflt .json)).items⟩ : Json) x6 (fun y7 y8 => bif y7 then (e1 x5 y8) else (rec' x3 x4 (IntKind.i64.wrap (x5 + 1)) y8)))) else (e0 x6)
noncomputable def q23_2_0_L {R : Type} (h_q80 : q80_ty R) : q23_2_0_ty R
  | 0, _, _, _, _, _, _ => none
  | n + 1, x0', x1', x2', x3', e0, e1 => q23_2_0_B (q54 h_q80) (fun x0' x1' x2' x3' => q23_2_0_L h_q80 n x0' x1' x2' x3' e0 e1) x0' x1' x2' x3' e0 e1
noncomputable def q23_2_0_h : Hint := { live := [0, 1, 7, 8], own := [], rows := [], cells := [], drop := [], out := [4] }
abbrev q23_2_0_D : Type := (List Json) × Int × Int × Int
noncomputable def q23_2_0_enc : q23_2_0_D → St := fun d => ⟨[.sl .json d.1 .no, .func 80 [] [.ptr 0 0], .undef, .undef, .undef, .undef, .undef, .int .i64 d.2.1, .int .i64 d.2.2.1, .undef, .undef, .undef, .undef, .undef, .undef, .undef, .undef, .undef, .undef], [.cells [.int .i64 d.2.2.2]]⟩
noncomputable def q23_2_0_x0 {R : Type} (K : Ex → St → Option R) (q0 : Int) : Option R := K (.exit 0) ⟨[.undef, .undef, .undef, .undef, .undef, .undef, .undef, .undef, .undef, .undef, .undef, .undef, .undef, .undef, .undef, .undef, .undef, .undef, .undef], [.cells [.int .i64 q0]]⟩
noncomputable def q23_2_0_x1 {R : Type} (K : Ex → St → Option R) (q0 : Int) (q1 : Int) : Option R := K (.ret) ⟨[.undef, .undef, .undef, .undef, .int .i64 q0, .undef, .undef, .undef, .undef, .undef, .undef, .undef, .undef, .undef, .undef, .undef, .undef, .undef, .undef], [.cells [.int .i64 q1]]⟩
noncomputable def q23_2_0_s {R : Type} (q54 : q54_ty R) (K : Ex → St → Option R) (rc : q23_2_0_D → Option R) (d : q23_2_0_D) : Option R := q23_2_0_B q54 (fun z0 z1 z2 z3 => rc (z0, z1, z2, z3)) d.1 d.2.1 d.2.2.1 d.2.2.2 (q23_2_0_x0 K) (q23_2_0_x1 K)
noncomputable def q23_2_0_A {R : Type} (h_q80 : q80_ty R) (K : Ex → St → Option R) (n : Nat) (d : q23_2_0_D) : Option R := q23_2_0_L h_q80 n d.1 d.2.1 d.2.2.1 d.2.2.2 (q23_2_0_x0 K) (q23_2_0_x1 K)
abbrev q23_2_0_p : List Pat := [.leaf (.sl .json), .func 80 [] [.ptr 0 0], .leaf (.undef), .leaf (.undef), .leaf (.undef), .leaf (.undef), .leaf (.undef), .leaf (.int .i64), .leaf (.int .i64), .leaf (.undef), .leaf (.undef), .leaf (.undef), .leaf (.undef), .leaf (.undef), .leaf (.undef), .leaf (.undef), .leaf (.undef), .leaf (.undef), .leaf (.undef)]
abbrev q23_2_0_q : List HPat := [.cells [.int .i64]]
noncomputable def q23_2_0_f (x : Pat.dens q23_2_0_p) (y : HPat.dens q23_2_0_q) : Nat := (List.length x.1 + Int.natAbs x.2.2.2.2.2.2.2.1 + Int.natAbs x.2.2.2.2.2.2.2.2.1 + Int.natAbs y.1.1 + 64)
noncomputable def q23_2_0_d (x : Pat.dens q23_2_0_p) (y : HPat.dens q23_2_0_q) : q23_2_0_D := (x.1, x.2.2.2.2.2.2.2.1, x.2.2.2.2.2.2.2.2.1, y.1.1)
noncomputable def q23_2_0_rr {R : Type} (L : q23_2_0_ty R) : Pat.dens q23_2_0_p → HPat.dens q23_2_0_q → (Ex → St → Option R) → Option R := fun x y K => L (q23_2_0_f x y) x.1 x.2.2.2.2.2.2.2.1 x.2.2.2.2.2.2.2.2.1 y.1.1 (q23_2_0_x0 K) (q23_2_0_x1 K)
noncomputable def q23_T (R : Type) (q23_2_0_L : q23_2_0_ty R) : Nat → Option (Hint × LSpec R) := fun i => match i with
  | 2 => some (q23_2_0_h, (loopBy q23_2_0_p q23_2_0_q (q23_2_0_rr q23_2_0_L) loopNo))
  | _ => none
theorem q23_2_0_B_ok {R : Type} (q54 : q54_ty R) (q23_2_0_L : q23_2_0_ty R) (K : Ex → St → Option R) (rc : St → Option R) (d : q23_2_0_D) : roundOf tt (q23_E R q54) (q23_T R q23_2_0_L) 1 ((loopsOf (codeOf Tryz.f116)).getD 0 .skip) q23_2_0_h (q23_2_0_enc d) rc K = q23_2_0_s q54 K (fun d => rc (q23_2_0_enc d)) d := by kernel_rfl
theorem q23_2_0_A_succ {R : Type} (h_q80 : q80_ty R) (K : Ex → St → Option R) (n : Nat) (d : q23_2_0_D) : q23_2_0_A h_q80 K (n + 1) d = q23_2_0_s (q54 h_q80) K (q23_2_0_A h_q80 K n) d := by kernel_rfl
theorem q23_2_0_A_zero {R : Type} (h_q80 : q80_ty R) (K : Ex → St → Option R) (d : q23_2_0_D) : q23_2_0_A h_q80 K 0 d = none := by kernel_rfl
theorem q23_2_0_e_ok (x : Pat.dens q23_2_0_p) (y : HPat.dens q23_2_0_q) : (⟨Pat.encL q23_2_0_p x, HPat.encL q23_2_0_q y⟩ : St) = q23_2_0_enc (q23_2_0_d x y) := by kernel_rfl
theorem q23_2_0_r_ok {R : Type} (h_q80 : q80_ty R) (x : Pat.dens q23_2_0_p) (y : HPat.dens q23_2_0_q) (K : Ex → St → Option R) : q23_2_0_rr (q23_2_0_L h_q80) x y K = q23_2_0_A h_q80 K (q23_2_0_f x y) (q23_2_0_d x y) := by kernel_rfl
theorem q23_2_0_ok {R : Type} (h_q80 : q80_ty R) (other : LSpec R) (ho : LsOk tt (q23_E R (q54 h_q80)) (q23_T R (q23_2_0_L h_q80)) 1 ((loopsOf (codeOf Tryz.f116)).getD 0 .skip) q23_2_0_h other) : LsOk tt (q23_E R (q54 h_q80)) (q23_T R (q23_2_0_L h_q80)) 1 ((loopsOf (codeOf Tryz.f116)).getD 0 .skip) q23_2_0_h (loopBy q23_2_0_p q23_2_0_q (q23_2_0_rr (q23_2_0_L h_q80)) other) :=
  loopBy_tie (A := q23_2_0_A h_q80) ho (loop_tie q23_2_0_enc (q23_2_0_s (q54 h_q80)) (q23_2_0_A h_q80) (q23_2_0_A_zero h_q80) (q23_2_0_B_ok (q54 h_q80) (q23_2_0_L h_q80)) (q23_2_0_A_succ h_q80)) q23_2_0_f q23_2_0_d q23_2_0_e_ok (q23_2_0_r_ok h_q80)
noncomputable def q23_X {R : Type} (q23_2_0_L : q23_2_0_ty R) (x1 : List Json) (x2 : Int) (k0 : Int → Int → Option R) : Option R :=
  q23_2_0_L (List.length x1 + Int.natAbs (x1.length : Int) + Int.natAbs 0 + Int.natAbs x2 + 64) x1 (x1.length : Int) 0 x2 (fun y9 => k0 (-1) y9) (fun y10 y11 => k0 y10 y11)
noncomputable def q23 {R : Type} (h_q80 : q80_ty R) : q23_ty R := fun x1 x2 k0 => q23_X (q23_2_0_L h_q80) x1 x2 k0
theorem q23_ok {R : Type} (q54 : q54_ty R) (q23_2_0_L : q23_2_0_ty R) (x1 : List Json) (x2 : Int) (k : V → Heap → Option R) : funK tt (q23_E R q54) (q23_T R q23_2_0_L) false Tryz.f116 (codeOf Tryz.f116) [.sl .json x1 .no, .func 80 [] [.ptr 0 0]] [.cells [.int .i64 x2]] k =
    q23_X q23_2_0_L x1 x2 (fun q0 q1 => k (.int .i64 q0) [.cells [.int .i64 q1]]) := by kernel_rfl
theorem q23_loops (R : Type) (h_q80 : q80_ty R) : ∀ a ∈ loopsOf (codeOf Tryz.f116), LoopOk tt (q23_E R (q54 h_q80)) (q23_T R (q23_2_0_L h_q80)) 1 a := by
  refine loops_ok 1 (by kernel_rfl) fun i hi => ?_
  match i, hi with
  | 0, _ => exact loopOk_some (by kernel_rfl) (q23_2_0_ok h_q80 _ loopNo_ok)
  | n + 1, hi => omega
theorem q23_S_ok (R : Type) (h_q80 : q80_ty R) (y_q80 : Yard.Spec.Ok Tryz.prog 56 (specBy q80_p q80_q (q80_rr h_q80) specNo)) (other : Yard.Spec R) (ho : Yard.Spec.Ok Tryz.prog 116 other) : Yard.Spec.Ok Tryz.prog 116 (specBy q23_p q23_q (q23_rr (q23 h_q80)) other) :=
  specBy_ok ho (funK_sound TT mixed (q23_EOk R h_q80 y_q80) (keep := false) rfl rfl rfl rfl 1 (q23_loops R h_q80)) fun (x : Pat.dens q23_p) (y : HPat.dens q23_q) k => q23_ok (q54 h_q80) (q23_2_0_L h_q80) x.1 y.1.1 k
/-! ### slices.ContainsFunc[[]humpyard/api.Json,humpyard/api.Json] -/
abbrev q19_ty (R : Type) : Type := (List Json) → Int → (Bool → Int → Option R) → Option R
abbrev q19_p : List Pat := [.leaf (.sl .json), .func 80 [] [.ptr 0 0]]
abbrev q19_q : List HPat := [.cells [.int .i64]]
noncomputable def q19_rr {R : Type} (fn : q19_ty R) : Pat.dens q19_p → HPat.dens q19_q → (V → Heap → Option R) → Option R := fun x y k => fn x.1 y.1.1 (fun q0 q1 => k (.bool q0) [.cells [.int .i64 q1]])
noncomputable def q19_E (R : Type) (q23 : q23_ty R) : Env R := fun i => match i with
  | 116 => some (false, (specBy q23_p q23_q (q23_rr q23) specNo))
  | _ => none
theorem q19_EOk (R : Type) (h_q80 : q80_ty R) (y_q80 : Yard.Spec.Ok Tryz.prog 56 (specBy q80_p q80_q (q80_rr h_q80) specNo)) : EOk Tryz.prog (q19_E R (q23 h_q80)) := by
  intro i b sp h
  unfold q19_E at h
  split at h
  · cases h; exact ⟨(q23_S_ok R h_q80 y_q80 _ (specNo_ok _)), fun _ h => nomatch h⟩
  · cases h
noncomputable def q19_T (R : Type) : Nat → Option (Hint × LSpec R) := fun i => match i with
  | _ => none
noncomputable def q19_X {R : Type} (q23 : q23_ty R) (x1 : List Json) (x2 : Int) (k0 : Bool → Int → Option R) : Option R :=
  q23 x1 x2 (fun y3 y4 => k0 (decide (y3 ≥ (0 : Int))) y4)
noncomputable def q19 {R : Type} (h_q80 : q80_ty R) : q19_ty R := fun x1 x2 k0 => q19_X (q23 h_q80) x1 x2 k0
theorem q19_ok {R : Type} (q23 : q23_ty R) (x1 : List Json) (x2 : Int) (k : V → Heap → Option R) : funK tt (q19_E R q23) (q19_T R) false Tryz.f79 (codeOf Tryz.f79) [.sl .json x1 .no, .func 80 [] [.ptr 0 0]] [.cells [.int .i64 x2]] k =
    q19_X q23 x1 x2 (fun q0 q1 => k (.bool q0) [.cells [.int .i64 q1]]) := by kernel_rfl
theorem q19_loops (R : Type) (h_q80 : q80_ty R) : ∀ a ∈ loopsOf (codeOf Tryz.f79), LoopOk tt (q19_E R (q23 h_q80)) (q19_T R) 1 a := by
  refine loops_ok 0 (by kernel_rfl) fun i hi => ?_
  omega
theorem q19_S_ok (R : Type) (h_q80 : q80_ty R) (y_q80 : Yard.Spec.Ok Tryz.prog 56 (specBy q80_p q80_q (q80_rr h_q80) specNo)) (other : Yard.Spec R) (ho : Yard.Spec.Ok Tryz.prog 79 other) : Yard.Spec.Ok Tryz.prog 79 (specBy q19_p q19_q (q19_rr (q19 h_q80)) other) :=
  specBy_ok ho (funK_sound TT mixed (q19_EOk R h_q80 y_q80) (keep := false) rfl rfl rfl rfl 1 (q19_loops R h_q80)) fun (x : Pat.dens q19_p) (y : HPat.dens q19_q) k => q19_ok (q23 h_q80) x.1 y.1.1 k
noncomputable def q80_E (R : Type) (q68 : q68_ty R) (q63 : q63_ty R) (q86 : q86_ty R) (q69 : q69_ty R) (q19 : q19_ty R) : Env R := fun i => match i with
  | 49 => some (true, (specBy q68_p q68_q (q68_rr q68) specNo))
  | 65 => some (true, (specBy q63_p q63_q (q63_rr q63) specNo))
  | 77 => some (true, (specBy q86_p q86_q (q86_rr q86) specNo))
  | 78 => some (true, (specBy q69_p q69_q (q69_rr q69) specNo))
  | 79 => some (false, (specBy q19_p q19_q (q19_rr q19) specNo))
  | _ => none
theorem q80_EOk (R : Type) (h_q80 : q80_ty R) (y_q80 : Yard.Spec.Ok Tryz.prog 56 (specBy q80_p q80_q (q80_rr h_q80) specNo)) : EOk Tryz.prog (q80_E R q68 q63 q86 q69 (q19 h_q80)) := by
  intro i b sp h
  unfold q80_E at h
  split at h
  · cases h; exact ⟨(q68_S_ok R _ (specNo_ok _)), fun h => nomatch h⟩
  · cases h; exact ⟨(q63_S_ok R _ (specNo_ok _)), fun h => nomatch h⟩
  · cases h; exact ⟨(q86_S_ok R _ (specNo_ok _)), fun h => nomatch h⟩
  · cases h; exact ⟨(q69_S_ok R _ (specNo_ok _)), fun h => nomatch h⟩
  · cases h; exact ⟨(q19_S_ok R h_q80 y_q80 _ (specNo_ok _)), fun _ h => nomatch h⟩
  · cases h
noncomputable def q80_T (R : Type) : Nat → Option (Hint × LSpec R) := fun i => match i with
  | _ => none
noncomputable def q80_X {R : Type} (q68 : q68_ty R) (q63 : q63_ty R) (q86 : q86_ty R) (q69 : q69_ty R) (q19 : q19_ty R) (x1 : Json) (x2 : Int) (k0 : Bool → Option R) : Option R :=
  q86 (⟨x1.kind, ⟨x1.num.mant, x1.num.exp⟩, x1.text, x1.names, x1.items⟩ : Json) (fun y3 => bif (decide (x2 > (16 : Int))) then (k0 false) else (bif (decide (x1.kind < (1 : Int))) then (k0 false) else (bif (decide (x1.kind > (7 : Int))) then (k0 false) else (bif (!(y3.num.mant == 0 && (y3.num.exp == 0 && true))) then (k0 false) else (bif (!(y3.text == ([] : Str))) then (k0 false) else (bif (decide ((IntKind.i64.wrap ((y3.names.length : Int) + (y3.items.length : Int))) > (0 : Int))) then (k0 false) else (bif (x1.kind == 4) then (q63 x1.num (fun y5 => k0 y5)) else (bif (x1.kind == 5) then (q68 x1.text (fun y6 => k0 y6)) else (bif (x1.kind == 7) then (bif ((x1.names.length : Int) != (x1.items.length : Int)) then (k0 false) else (q69 x1.names (fun y7 => bif (!y7) then (k0 false) else (q19 x1.items x2 (fun y11 y12 => k0 (!y11)))))) else (q19 x1.items x2 (fun y13 y14 => k0 (!y13))))))))))))
noncomputable def q80_B {R : Type} (h_q80 : q80_ty R) : q80_ty R := fun x1 x2 k0 => q80_X q68 q63 q86 q69 (q19 h_q80) x1 x2 k0
theorem q80_ok {R : Type} (q68 : q68_ty R) (q63 : q63_ty R) (q86 : q86_ty R) (q69 : q69_ty R) (q19 : q19_ty R) (x1 : Json) (x2 : Int) (k : V → Heap → Option R) : funK tt (q80_E R q68 q63 q86 q69 q19) (q80_T R) false Tryz.f56 (codeOf Tryz.f56) [.agg [.int .i64 x1.kind, .int .i64 x1.num.mant, .int .i64 x1.num.exp, .str x1.text, .sl .str x1.names .no, .sl .json x1.items .no], .int .i64 x2] [] k =
    q80_X q68 q63 q86 q69 q19 x1 x2 (fun q0 => k (.bool q0) []) := by kernel_rfl
theorem q80_loops (R : Type) (h_q80 : q80_ty R) : ∀ a ∈ loopsOf (codeOf Tryz.f56), LoopOk tt (q80_E R q68 q63 q86 q69 (q19 h_q80)) (q80_T R) 0 a := by
  refine loops_ok 0 (by kernel_rfl) fun i hi => ?_
  omega
theorem q80_S_okB (R : Type) (h_q80 : q80_ty R) (y_q80 : Yard.Spec.Ok Tryz.prog 56 (specBy q80_p q80_q (q80_rr h_q80) specNo)) (other : Yard.Spec R) (ho : Yard.Spec.Ok Tryz.prog 56 other) : Yard.Spec.Ok Tryz.prog 56 (specBy q80_p q80_q (q80_rr (q80_B h_q80)) other) :=
  specBy_ok ho (funK_sound TT mixed (q80_EOk R h_q80 y_q80) (keep := false) rfl rfl rfl rfl 0 (q80_loops R h_q80)) fun (x : Pat.dens q80_p) (y : HPat.dens q80_q) k => q80_ok q68 q63 q86 q69 (q19 h_q80) (⟨x.1.1, ⟨x.1.2.1, x.1.2.2.1⟩, x.1.2.2.2.1, x.1.2.2.2.2.1, x.1.2.2.2.2.2.1⟩ : Json) x.2.1 k
noncomputable def q80_N {R : Type} : Nat → q80_ty R
  | 0, _, _, _ => none
  | n + 1, x0', x1', k0' => q80_B (q80_N n) x0' x1' k0'
theorem q80_N_succ {R : Type} (n : Nat) : q80_N (R := R) (n + 1) = q80_B (q80_N n) := by kernel_rfl
theorem q80_N_ok (R : Type) : ∀ n, Yard.Spec.Ok Tryz.prog 56 (specBy q80_p q80_q (q80_rr (q80_N (R := R) n)) specNo) :=
  specBy_fuel (run := fun n => q80_rr (q80_N (R := R) n)) (fun x y k => by kernel_rfl) fun n hyp => q80_S_okB R (q80_N n) hyp specNo (specNo_ok _)
noncomputable def q80 {R : Type} : q80_ty R := fun x1 x2 k0 => q80_N (Json.depth x1 + 2) x1 x2 k0
theorem q80_r_ok (R : Type) : q80_rr (R := R) q80 = fun x y k => q80_rr (q80_N (Json.depth (⟨x.1.1, ⟨x.1.2.1, x.1.2.2.1⟩, x.1.2.2.2.1, x.1.2.2.2.2.1, x.1.2.2.2.2.2.1⟩ : Json) + 2)) x y k := by kernel_rfl
theorem q80_S_ok (R : Type) (other : Yard.Spec R) (ho : Yard.Spec.Ok Tryz.prog 56 other) : Yard.Spec.Ok Tryz.prog 56 (specBy q80_p q80_q (q80_rr q80) other) :=
  specBy_run (specBy_at (run := fun n => q80_rr (q80_N (R := R) n)) (fun x y => (Json.depth (⟨x.1.1, ⟨x.1.2.1, x.1.2.2.1⟩, x.1.2.2.2.1, x.1.2.2.2.2.1, x.1.2.2.2.2.2.1⟩ : Json) + 2)) ho (q80_N_ok R)) (q80_r_ok R)
end Go.Proofs.YtmlkkgfenfdndaaGreatDoor
/-
  Functions of the program as pure Lean functions, and the ties; printed by wip/tools/emit.py.
-/
set_option maxRecDepth 100000
namespace Go.Proofs.YtmlkkgfenfdndaaGreatDoor
open Go Go.Yard
/-! ### humpyard/json.Right -/
abbrev q83_ty (R : Type) : Type := Json → (Bool → Option R) → Option R
abbrev q83_p : List Pat := [.agg [.int .i64, .int .i64, .int .i64, .str, .sl .str, .sl .json]]
abbrev q83_q : List HPat := []
noncomputable def q83_rr {R : Type} (fn : q83_ty R) : Pat.dens q83_p → HPat.dens q83_q → (V → Heap → Option R) → Option R := fun x y k => fn (⟨x.1.1, ⟨x.1.2.1, x.1.2.2.1⟩, x.1.2.2.2.1, x.1.2.2.2.2.1, x.1.2.2.2.2.2.1⟩ : Json) (fun q0 => k (.bool q0) [])
noncomputable def q83_E (R : Type) (q80 : q80_ty R) : Env R := fun i => match i with
  | 56 => some (true, (specBy q80_p q80_q (q80_rr q80) specNo))
  | _ => none
theorem q83_EOk (R : Type) : EOk Tryz.prog (q83_E R q80) := by
  intro i b sp h
  unfold q83_E at h
  split at h
  · cases h; exact ⟨(q80_S_ok R _ (specNo_ok _)), fun h => nomatch h⟩
  · cases h
noncomputable def q83_T (R : Type) : Nat → Option (Hint × LSpec R) := fun i => match i with
  | _ => none
noncomputable def q83_X {R : Type} (q80 : q80_ty R) (x1 : Json) (k0 : Bool → Option R) : Option R :=
  q80 (⟨x1.kind, ⟨x1.num.mant, x1.num.exp⟩, x1.text, x1.names, x1.items⟩ : Json) 1 (fun y2 => k0 y2)
noncomputable def q83 {R : Type} : q83_ty R := fun x1 k0 => q83_X q80 x1 k0
theorem q83_ok {R : Type} (q80 : q80_ty R) (x1 : Json) (k : V → Heap → Option R) : funK tt (q83_E R q80) (q83_T R) false Tryz.f32 (codeOf Tryz.f32) [.agg [.int .i64 x1.kind, .int .i64 x1.num.mant, .int .i64 x1.num.exp, .str x1.text, .sl .str x1.names .no, .sl .json x1.items .no]] [] k =
    q83_X q80 x1 (fun q0 => k (.bool q0) []) := by kernel_rfl
theorem q83_loops (R : Type) : ∀ a ∈ loopsOf (codeOf Tryz.f32), LoopOk tt (q83_E R q80) (q83_T R) 0 a := by
  refine loops_ok 0 (by kernel_rfl) fun i hi => ?_
  omega
theorem q83_S_ok (R : Type) (other : Yard.Spec R) (ho : Yard.Spec.Ok Tryz.prog 32 other) : Yard.Spec.Ok Tryz.prog 32 (specBy q83_p q83_q (q83_rr q83) other) :=
  specBy_ok ho (funK_sound TT mixed (q83_EOk R) (keep := false) rfl rfl rfl rfl 0 (q83_loops R)) fun (x : Pat.dens q83_p) (y : HPat.dens q83_q) k => q83_ok q80 (⟨x.1.1, ⟨x.1.2.1, x.1.2.2.1⟩, x.1.2.2.2.1, x.1.2.2.2.2.1, x.1.2.2.2.2.2.1⟩ : Json) k
/-! ### humpyard/json.write$1 -/
abbrev q57_ty (R : Type) : Type := Str → ((List Int) → Option R) → Option R
abbrev q57_p : List Pat := [.leaf (.str), .leaf (.ptr 0 0)]
abbrev q57_q : List HPat := [.cells [.ptr 1 0], .bld (.nilsl)]
noncomputable def q57_rr {R : Type} (fn : q57_ty R) : Pat.dens q57_p → HPat.dens q57_q → (V → Heap → Option R) → Option R := fun x y k => fn x.1 (fun q0 => k (.tuple []) [.cells [.ptr 1 0], .bld (.sl (.int .u8) q0 (.own 2)), .tok])
noncomputable def q57_E (R : Type) (q70 : q70_ty R) (q20 : q20_ty R) : Env R := fun i => match i with
  | 26 => some (true, (specBy q70_p q70_q (q70_rr q70) specNo))
  | 52 => some (false, (specBy q20_p q20_q (q20_rr q20) specNo))
  | _ => none
theorem q57_EOk (R : Type) : EOk Tryz.prog (q57_E R q70 q20) := by
  intro i b sp h
  unfold q57_E at h
  split at h
  · cases h; exact ⟨(q70_S_ok R _ (specNo_ok _)), fun h => nomatch h⟩
  · cases h; exact ⟨(q20_S_ok R _ (specNo_ok _)), fun _ h => nomatch h⟩
  · cases h
noncomputable def q57_T (R : Type) : Nat → Option (Hint × LSpec R) := fun i => match i with
  | _ => none
noncomputable def q57_X {R : Type} (q70 : q70_ty R) (q20 : q20_ty R) (x1 : Str) (k0 : (List Int) → Option R) : Option R :=
  q70 x1 (fun y2 y3 => q20 y2 (fun y4 y5 => k0 y5))
noncomputable def q57 {R : Type} : q57_ty R := fun x1 k0 => q57_X q70 q20 x1 k0
theorem q57_ok {R : Type} (q70 : q70_ty R) (q20 : q20_ty R) (x1 : Str) (k : V → Heap → Option R) : funK tt (q57_E R q70 q20) (q57_T R) false Tryz.f61 (codeOf Tryz.f61) [.str x1, .ptr 0 0] [.cells [.ptr 1 0], .bld (.nilsl)] k =
    q57_X q70 q20 x1 (fun q0 => k (.tuple []) [.cells [.ptr 1 0], .bld (.sl (.int .u8) q0 (.own 2)), .tok]) := by kernel_rfl
theorem q57_loops (R : Type) : ∀ a ∈ loopsOf (codeOf Tryz.f61), LoopOk tt (q57_E R q70 q20) (q57_T R) 2 a := by
  refine loops_ok 0 (by kernel_rfl) fun i hi => ?_
  omega
theorem q57_S_ok (R : Type) (other : Yard.Spec R) (ho : Yard.Spec.Ok Tryz.prog 61 other) : Yard.Spec.Ok Tryz.prog 61 (specBy q57_p q57_q (q57_rr q57) other) :=
  specBy_ok ho (funK_sound TT mixed (q57_EOk R) (keep := false) rfl rfl rfl rfl 2 (q57_loops R)) fun (x : Pat.dens q57_p) (y : HPat.dens q57_q) k => q57_ok q70 q20 x.1 k
/-! ### humpyard/json.write$1 -/
abbrev q56_ty (R : Type) : Type := Str → (List Int) → ((List Int) → Option R) → Option R
abbrev q56_p : List Pat := [.leaf (.str), .leaf (.ptr 0 0)]
abbrev q56_q : List HPat := [.cells [.ptr 1 0], .bld (.slo (.int .u8) 2), .tok]
noncomputable def q56_rr {R : Type} (fn : q56_ty R) : Pat.dens q56_p → HPat.dens q56_q → (V → Heap → Option R) → Option R := fun x y k => fn x.1 y.2.1 (fun q0 => k (.tuple []) [.cells [.ptr 1 0], .bld (.sl (.int .u8) q0 (.own 3)), .dead, .tok])
noncomputable def q56_E (R : Type) (q70 : q70_ty R) (q21 : q21_ty R) : Env R := fun i => match i with
  | 26 => some (true, (specBy q70_p q70_q (q70_rr q70) specNo))
  | 52 => some (false, (specBy q21_p q21_q (q21_rr q21) specNo))
  | _ => none
theorem q56_EOk (R : Type) : EOk Tryz.prog (q56_E R q70 q21) := by
  intro i b sp h
  unfold q56_E at h
  split at h
  · cases h; exact ⟨(q70_S_ok R _ (specNo_ok _)), fun h => nomatch h⟩
  · cases h; exact ⟨(q21_S_ok R _ (specNo_ok _)), fun _ h => nomatch h⟩
  · cases h
noncomputable def q56_T (R : Type) : Nat → Option (Hint × LSpec R) := fun i => match i with
  | _ => none
noncomputable def q56_X {R : Type} (q70 : q70_ty R) (q21 : q21_ty R) (x1 : Str) (x2 : List Int) (k0 : (List Int) → Option R) : Option R :=
  q70 x1 (fun y3 y4 => q21 y3 x2 (fun y5 y6 => k0 y6))
noncomputable def q56 {R : Type} : q56_ty R := fun x1 x2 k0 => q56_X q70 q21 x1 x2 k0
theorem q56_ok {R : Type} (q70 : q70_ty R) (q21 : q21_ty R) (x1 : Str) (x2 : List Int) (k : V → Heap → Option R) : funK tt (q56_E R q70 q21) (q56_T R) false Tryz.f61 (codeOf Tryz.f61) [.str x1, .ptr 0 0] [.cells [.ptr 1 0], .bld (.sl (.int .u8) x2 (.own 2)), .tok] k =
    q56_X q70 q21 x1 x2 (fun q0 => k (.tuple []) [.cells [.ptr 1 0], .bld (.sl (.int .u8) q0 (.own 3)), .dead, .tok]) := by kernel_rfl
theorem q56_loops (R : Type) : ∀ a ∈ loopsOf (codeOf Tryz.f61), LoopOk tt (q56_E R q70 q21) (q56_T R) 3 a := by
  refine loops_ok 0 (by kernel_rfl) fun i hi => ?_
  omega
theorem q56_S_ok (R : Type) (other : Yard.Spec R) (ho : Yard.Spec.Ok Tryz.prog 61 other) : Yard.Spec.Ok Tryz.prog 61 (specBy q56_p q56_q (q56_rr q56) other) :=
  specBy_ok ho (funK_sound TT mixed (q56_EOk R) (keep := false) rfl rfl rfl rfl 3 (q56_loops R)) fun (x : Pat.dens q56_p) (y : HPat.dens q56_q) k => q56_ok q70 q21 x.1 y.2.1 k
/-! ### humpyard/json.write -/
abbrev q59_ty (R : Type) : Type := Json → (List Int) → ((List Int) → Option R) → Option R
abbrev q59_p : List Pat := [.leaf (.ptr 0 0), .agg [.int .i64, .int .i64, .int .i64, .str, .sl .str, .sl .json]]
abbrev q59_q : List HPat := [.bld (.slo (.int .u8) 1), .tok]
noncomputable def q59_rr {R : Type} (fn : q59_ty R) : Pat.dens q59_p → HPat.dens q59_q → (V → Heap → Option R) → Option R := fun x y k => fn (⟨x.2.1.1, ⟨x.2.1.2.1, x.2.1.2.2.1⟩, x.2.1.2.2.2.1, x.2.1.2.2.2.2.1, x.2.1.2.2.2.2.2.1⟩ : Json) y.1 (fun q0 => k (.tuple []) [.bld (.sl (.int .u8) q0 (.own 2)), .dead, .tok])
abbrev q59_18_0_ty (R : Type) : Type := Nat → Str → (List Json) → Int → Int → (List Int) → Json → (Str → (List Int) → Option R) → Option R
noncomputable def q59_E (R : Type) (q64 : q64_ty R) (q25 : q25_ty R) (q21 : q21_ty R) (h_q59 : q59_ty R) (q56 : q56_ty R) : Env R := fun i => match i with
  | 46 => some (true, (specBy q64_p q64_q (q64_rr q64) specNo))
  | 50 => some (false, (specBy q25_p q25_q (q25_rr q25) specNo))
  | 52 => some (false, (specBy q21_p q21_q (q21_rr q21) specNo))
  | 38 => some (false, (specBy q59_p q59_q (q59_rr h_q59) specNo))
  | 61 => some (false, (specBy q56_p q56_q (q56_rr q56) specNo))
  | _ => none
theorem q59_EOk (R : Type) (h_q59 : q59_ty R) (y_q59 : Yard.Spec.Ok Tryz.prog 38 (specBy q59_p q59_q (q59_rr h_q59) specNo)) : EOk Tryz.prog (q59_E R q64 q25 q21 h_q59 q56) := by
  intro i b sp h
  unfold q59_E at h
  split at h
  · cases h; exact ⟨(q64_S_ok R _ (specNo_ok _)), fun h => nomatch h⟩
  · cases h; exact ⟨(q25_S_ok R _ (specNo_ok _)), fun _ h => nomatch h⟩
  · cases h; exact ⟨(q21_S_ok R _ (specNo_ok _)), fun _ h => nomatch h⟩
  · cases h; exact ⟨y_q59, fun _ h => nomatch h⟩
  · cases h; exact ⟨(q56_S_ok R _ (specNo_ok _)), fun _ h => nomatch h⟩
  · cases h
noncomputable def q59_18_0_B {R : Type} (q25 : q25_ty R) (h_q59 : q59_ty R) (q56 : q56_ty R) (rec' : Str → (List Json) → Int → Int → (List Int) → Json → Option R) (x15 : Str) (x16 : List Json) (x17 : Int) (x18 : Int) (x19 : List Int) (x20 : Json) (e0 : Str → (List Int) → Option R) : Option R :=
  bif (decide (x18 < x17)) then (chk (decide ((0 : Int) ≤ x18) && decide (x18 < x16.length)) (bif (decide (x18 > (0 : Int))) then (q25 44 x19 (fun y21 => bif (x20.kind == 7) then (chk (decide ((0 : Int) ≤ x18) && decide (x18 < x20.names.length)) (q56 (x20.names.getD x18.toNat (Ty.dflt .str)) y21 (fun y22 => q25 58 y22 (fun y23 => h_q59 (⟨(x16.getD x18.toNat (Ty.dflt .json)).kind, ⟨(x16.getD x18.toNat (Ty.dflt .json)).num.mant, (x16.getD x18.toNat (Ty.dflt .json)).num.exp⟩, (x16.getD x18.toNat (Ty.dflt .json)).text, (x16.getD x18.toNat (Ty.dflt .json)).names, (x16.getD x18.toNat (Ty.dflt .json)).items⟩ : Json) y23 (fun y24 => rec' x15 x16 x17 (IntKind.i64.wrap (x18 + 1)) y24 (⟨x20.kind, ⟨x20.num.mant, x20.num.exp⟩, x20.text, x20.names, x20.items⟩ : Json)))))) else (h_q59 (⟨(x16.getD x18.toNat (Ty.dflt .json)).kind, ⟨(x16.getD x18.toNat (Ty.dflt .json)).num.mant, (x16.getD x18.toNat (Ty.dflt .json)).num.exp⟩, (x16.getD x18.toNat (Ty.dflt .json)).text, (x16.getD x18.toNat (Ty.dflt .json)).names, (x16.getD x18.toNat (Ty.dflt .json)).items⟩ : Json) y21 (fun y25 => rec' x15 x16 x17 (IntKind.i64.wrap (x18 + 1)) y25 (⟨x20.kind, ⟨x20.num.mant, x20.num.exp⟩, x20.text, x20.names, x20.items⟩ : Json))))) else (bif (x20.kind == 7) then (chk (decide ((0 : Int) ≤ x18) && decide (x18 < x20.names.length)) (q56 (x20.names.getD x18.toNat (Ty.dflt .str)) x19 (fun y26 => q25 58 y26 (fun y27 => h_q59 (⟨(x16.getD x18.toNat (Ty.dflt .json)).kind, ⟨(x16.getD x18.toNat (Ty.dflt .json)).num.mant, (x16.getD x18.toNat (Ty.dflt .json)).num.exp⟩, (x16.getD x18.toNat (Ty.dflt .json)).text, (x16.getD x18.toNat (Ty.dflt .json)).names, (x16.getD x18.toNat (Ty.dflt .json)).items⟩ : Json) y27 (fun y28 => rec' x15 x16 x17 (IntKind.i64.wrap (x18 + 1)) y28 (⟨x20.kind, ⟨x20.num.mant, x20.num.exp⟩, x20.text, x20.names, x20.items⟩ : Json)))))) else (h_q59 (⟨(x16.getD x18.toNat (Ty.dflt .json)).kind, ⟨(x16.getD x18.toNat (Ty.dflt .json)).num.mant, (x16.getD x18.toNat (Ty.dflt .json)).num.exp⟩, (x16.getD x18.toNat (Ty.dflt .json)).text, (x16.getD x18.toNat (Ty.dflt .json)).names, (x16.getD x18.toNat (Ty.dflt .json)).items⟩ : Json) x19 (fun y29 => rec' x15 x16 x17 (IntKind.i64.wrap (x18 + 1)) y29 (⟨x20.kind, ⟨x20.num.mant, x20.num.exp⟩, x20.text, x20.names, x20.items⟩ : Json)))))) else (e0 x15 x19)
noncomputable def q59_18_0_L {R : Type} (h_q59 : q59_ty R) : q59_18_0_ty R
  | 0, _, _, _, _, _, _, _ => none
  | n + 1, x0', x1', x2', x3', x4', x5', e0 => q59_18_0_B q25 h_q59 q56 (fun x0' x1' x2' x3' x4' x5' => q59_18_0_L h_q59 n x0' x1' x2' x3' x4' x5' e0) x0' x1' x2' x3' x4' x5' e0
noncomputable def q59_18_0_h : Hint := { live := [2, 3, 4, 5, 43, 44, 45], own := [], rows := [], cells := [], drop := [], out := [2, 5] }
abbrev q59_18_0_D : Type := Str × (List Json) × Int × Int × (List Int) × Json
noncomputable def q59_18_0_enc : q59_18_0_D → St := fun d => ⟨[.undef, .undef, .ptr 2 0, .ptr 3 0, .func 61 [] [.ptr 2 0], .str d.1, .undef, .undef, .undef, .undef, .undef, .undef, .undef, .undef, .undef, .undef, .undef, .undef, .undef, .undef, .undef, .undef, .undef, .undef, .undef, .undef, .undef, .undef, .undef, .undef, .undef, .undef, .undef, .undef, .undef, .undef, .undef, .undef, .undef, .undef, .undef, .undef, .undef, .sl .json d.2.1 .no, .int .i64 d.2.2.1, .int .i64 d.2.2.2.1, .undef, .undef, .undef, .undef, .undef, .undef, .undef, .undef, .undef, .undef, .undef, .undef, .undef, .undef, .undef, .undef, .undef, .undef, .undef, .undef, .undef, .undef, .undef, .undef, .undef, .undef, .undef, .undef], [.bld (.sl (.int .u8) d.2.2.2.2.1 (.own 4)), .dead, .cells [.ptr 0 0], .cells [.int .i64 d.2.2.2.2.2.kind, .int .i64 d.2.2.2.2.2.num.mant, .int .i64 d.2.2.2.2.2.num.exp, .str d.2.2.2.2.2.text, .sl .str d.2.2.2.2.2.names .no, .sl .json d.2.2.2.2.2.items .no], .tok]⟩
noncomputable def q59_18_0_x0 {R : Type} (K : Ex → St → Option R) (q0 : Str) (q1 : List Int) : Option R := K (.exit 1) ⟨[.undef, .undef, .ptr 2 0, .undef, .undef, .str q0, .undef, .undef, .undef, .undef, .undef, .undef, .undef, .undef, .undef, .undef, .undef, .undef, .undef, .undef, .undef, .undef, .undef, .undef, .undef, .undef, .undef, .undef, .undef, .undef, .undef, .undef, .undef, .undef, .undef, .undef, .undef, .undef, .undef, .undef, .undef, .undef, .undef, .undef, .undef, .undef, .undef, .undef, .undef, .undef, .undef, .undef, .undef, .undef, .undef, .undef, .undef, .undef, .undef, .undef, .undef, .undef, .undef, .undef, .undef, .undef, .undef, .undef, .undef, .undef, .undef, .undef, .undef, .undef], [.bld (.sl (.int .u8) q1 (.own 3)), .dead, .cells [.ptr 0 0], .tok]⟩
noncomputable def q59_18_0_s {R : Type} (q25 : q25_ty R) (h_q59 : q59_ty R) (q56 : q56_ty R) (K : Ex → St → Option R) (rc : q59_18_0_D → Option R) (d : q59_18_0_D) : Option R := q59_18_0_B q25 h_q59 q56 (fun z0 z1 z2 z3 z4 z5 => rc (z0, z1, z2, z3, z4, z5)) d.1 d.2.1 d.2.2.1 d.2.2.2.1 d.2.2.2.2.1 d.2.2.2.2.2 (q59_18_0_x0 K)
noncomputable def q59_18_0_A {R : Type} (h_q59 : q59_ty R) (K : Ex → St → Option R) (n : Nat) (d : q59_18_0_D) : Option R := q59_18_0_L h_q59 n d.1 d.2.1 d.2.2.1 d.2.2.2.1 d.2.2.2.2.1 d.2.2.2.2.2 (q59_18_0_x0 K)
abbrev q59_18_0_p : List Pat := [.leaf (.undef), .leaf (.undef), .leaf (.ptr 2 0), .leaf (.ptr 3 0), .func 61 [] [.ptr 2 0], .leaf (.str), .leaf (.undef), .leaf (.undef), .leaf (.undef), .leaf (.undef), .leaf (.undef), .leaf (.undef), .leaf (.undef), .leaf (.undef), .leaf (.undef), .leaf (.undef), .leaf (.undef), .leaf (.undef), .leaf (.undef), .leaf (.undef), .leaf (.undef), .leaf (.undef), .leaf (.undef), .leaf (.undef), .leaf (.undef), .leaf (.undef), .leaf (.undef), .leaf (.undef), .leaf (.undef), .leaf (.undef), .leaf (.undef), .leaf (.undef), .leaf (.undef), .leaf (.undef), .leaf (.undef), .leaf (.undef), .leaf (.undef), .leaf (.undef), .leaf (.undef), .leaf (.undef), .leaf (.undef), .leaf (.undef), .leaf (.undef), .leaf (.sl .json), .leaf (.int .i64), .leaf (.int .i64), .leaf (.undef), .leaf (.undef), .leaf (.undef), .leaf (.undef), .leaf (.undef), .leaf (.undef), .leaf (.undef), .leaf (.undef), .leaf (.undef), .leaf (.undef), .leaf (.undef), .leaf (.undef), .leaf (.undef), .leaf (.undef), .leaf (.undef), .leaf (.undef), .leaf (.undef), .leaf (.undef), .leaf (.undef), .leaf (.undef), .leaf (.undef), .leaf (.undef), .leaf (.undef), .leaf (.undef), .leaf (.undef), .leaf (.undef), .leaf (.undef), .leaf (.undef)]
abbrev q59_18_0_q : List HPat := [.bld (.slo (.int .u8) 4), .dead, .cells [.ptr 0 0], .cells [.int .i64, .int .i64, .int .i64, .str, .sl .str, .sl .json], .tok]
noncomputable def q59_18_0_f (x : Pat.dens q59_18_0_p) (y : HPat.dens q59_18_0_q) : Nat := (List.length x.2.2.2.2.2.1 + List.length x.2.2.2.2.2.2.2.2.2.2.2.2.2.2.2.2.2.2.2.2.2.2.2.2.2.2.2.2.2.2.2.2.2.2.2.2.2.2.2.2.2.2.2.1 + Int.natAbs x.2.2.2.2.2.2.2.2.2.2.2.2.2.2.2.2.2.2.2.2.2.2.2.2.2.2.2.2.2.2.2.2.2.2.2.2.2.2.2.2.2.2.2.2.1 + Int.natAbs x.2.2.2.2.2.2.2.2.2.2.2.2.2.2.2.2.2.2.2.2.2.2.2.2.2.2.2.2.2.2.2.2.2.2.2.2.2.2.2.2.2.2.2.2.2.1 + List.length y.1 + Json.fu (⟨y.2.2.2.1.1, ⟨y.2.2.2.1.2.1, y.2.2.2.1.2.2.1⟩, y.2.2.2.1.2.2.2.1, y.2.2.2.1.2.2.2.2.1, y.2.2.2.1.2.2.2.2.2.1⟩ : Json) + 64)
noncomputable def q59_18_0_d (x : Pat.dens q59_18_0_p) (y : HPat.dens q59_18_0_q) : q59_18_0_D := (x.2.2.2.2.2.1, x.2.2.2.2.2.2.2.2.2.2.2.2.2.2.2.2.2.2.2.2.2.2.2.2.2.2.2.2.2.2.2.2.2.2.2.2.2.2.2.2.2.2.2.1, x.2.2.2.2.2.2.2.2.2.2.2.2.2.2.2.2.2.2.2.2.2.2.2.2.2.2.2.2.2.2.2.2.2.2.2.2.2.2.2.2.2.2.2.2.1, x.2.2.2.2.2.2.2.2.2.2.2.2.2.2.2.2.2.2.2.2.2.2.2.2.2.2.2.2.2.2.2.2.2.2.2.2.2.2.2.2.2.2.2.2.2.1, y.1, (⟨y.2.2.2.1.1, ⟨y.2.2.2.1.2.1, y.2.2.2.1.2.2.1⟩, y.2.2.2.1.2.2.2.1, y.2.2.2.1.2.2.2.2.1, y.2.2.2.1.2.2.2.2.2.1⟩ : Json))
noncomputable def q59_18_0_rr {R : Type} (L : q59_18_0_ty R) : Pat.dens q59_18_0_p → HPat.dens q59_18_0_q → (Ex → St → Option R) → Option R := fun x y K => L (q59_18_0_f x y) x.2.2.2.2.2.1 x.2.2.2.2.2.2.2.2.2.2.2.2.2.2.2.2.2.2.2.2.2.2.2.2.2.2.2.2.2.2.2.2.2.2.2.2.2.2.2.2.2.2.2.1 x.2.2.2.2.2.2.2.2.2.2.2.2.2.2.2.2.2.2.2.2.2.2.2.2.2.2.2.2.2.2.2.2.2.2.2.2.2.2.2.2.2.2.2.2.1 x.2.2.2.2.2.2.2.2.2.2.2.2.2.2.2.2.2.2.2.2.2.2.2.2.2.2.2.2.2.2.2.2.2.2.2.2.2.2.2.2.2.2.2.2.2.1 y.1 (⟨y.2.2.2.1.1, ⟨y.2.2.2.1.2.1, y.2.2.2.1.2.2.1⟩, y.2.2.2.1.2.2.2.1, y.2.2.2.1.2.2.2.2.1, y.2.2.2.1.2.2.2.2.2.1⟩ : Json) (q59_18_0_x0 K)
noncomputable def q59_T (R : Type) (q59_18_0_L : q59_18_0_ty R) : Nat → Option (Hint × LSpec R) := fun i => match i with
  | 18 => some (q59_18_0_h, (loopBy q59_18_0_p q59_18_0_q (q59_18_0_rr q59_18_0_L) loopNo))
  | _ => none
theorem q59_18_0_B_ok {R : Type} (q64 : q64_ty R) (q25 : q25_ty R) (q21 : q21_ty R) (h_q59 : q59_ty R) (q56 : q56_ty R) (q59_18_0_L : q59_18_0_ty R) (K : Ex → St → Option R) (rc : St → Option R) (d : q59_18_0_D) : roundOf tt (q59_E R q64 q25 q21 h_q59 q56) (q59_T R q59_18_0_L) 2 ((loopsOf (codeOf Tryz.f38)).getD 0 .skip) q59_18_0_h (q59_18_0_enc d) rc K = q59_18_0_s q25 h_q59 q56 K (fun d => rc (q59_18_0_enc d)) d := by kernel_rfl
theorem q59_18_0_A_succ {R : Type} (h_q59 : q59_ty R) (K : Ex → St → Option R) (n : Nat) (d : q59_18_0_D) : q59_18_0_A h_q59 K (n + 1) d = q59_18_0_s q25 h_q59 q56 K (q59_18_0_A h_q59 K n) d := by kernel_rfl
theorem q59_18_0_A_zero {R : Type} (h_q59 : q59_ty R) (K : Ex → St → Option R) (d : q59_18_0_D) : q59_18_0_A h_q59 K 0 d = none := by kernel_rfl
theorem q59_18_0_e_ok (x : Pat.dens q59_18_0_p) (y : HPat.dens q59_18_0_q) : (⟨Pat.encL q59_18_0_p x, HPat.encL q59_18_0_q y⟩ : St) = q59_18_0_enc (q59_18_0_d x y) := by kernel_rfl
theorem q59_18_0_r_ok {R : Type} (h_q59 : q59_ty R) (x : Pat.dens q59_18_0_p) (y : HPat.dens q59_18_0_q) (K : Ex → St → Option R) : q59_18_0_rr (q59_18_0_L h_q59) x y K = q59_18_0_A h_q59 K (q59_18_0_f x y) (q59_18_0_d x y) := by kernel_rfl
theorem q59_18_0_ok {R : Type} (h_q59 : q59_ty R) (other : LSpec R) (ho : LsOk tt (q59_E R q64 q25 q21 h_q59 q56) (q59_T R (q59_18_0_L h_q59)) 2 ((loopsOf (codeOf Tryz.f38)).getD 0 .skip) q59_18_0_h other) : LsOk tt (q59_E R q64 q25 q21 h_q59 q56) (q59_T R (q59_18_0_L h_q59)) 2 ((loopsOf (codeOf Tryz.f38)).getD 0 .skip) q59_18_0_h (loopBy q59_18_0_p q59_18_0_q (q59_18_0_rr (q59_18_0_L h_q59)) other) :=
  loopBy_tie (A := q59_18_0_A h_q59) ho (loop_tie q59_18_0_enc (q59_18_0_s q25 h_q59 q56) (q59_18_0_A h_q59) (q59_18_0_A_zero h_q59) (q59_18_0_B_ok q64 q25 q21 h_q59 q56 (q59_18_0_L h_q59)) (q59_18_0_A_succ h_q59)) q59_18_0_f q59_18_0_d q59_18_0_e_ok (q59_18_0_r_ok h_q59)
noncomputable def q59_X {R : Type} (q64 : q64_ty R) (q25 : q25_ty R) (q21 : q21_ty R) (q56 : q56_ty R) (q59_18_0_L : q59_18_0_ty R) (x1 : Json) (x2 : List Int) (k0 : (List Int) → Option R) : Option R :=
  let j33 := fun (z13 : Str) => chk (decide ((0 : Int) < z13.length)) (q25 ((z13.getD 0 0).toNat : Int) x2 (fun y14 => q59_18_0_L (List.length z13 + List.length x1.items + Int.natAbs (x1.items.length : Int) + Int.natAbs 0 + List.length y14 + Json.fu (⟨x1.kind, ⟨x1.num.mant, x1.num.exp⟩, x1.text, x1.names, x1.items⟩ : Json) + 64) z13 x1.items (x1.items.length : Int) 0 y14 (⟨x1.kind, ⟨x1.num.mant, x1.num.exp⟩, x1.text, x1.names, x1.items⟩ : Json) (fun y30 y31 => chk (decide ((1 : Int) < y30.length)) (q25 ((y30.getD 1 0).toNat : Int) y31 (fun y32 => k0 y32))))); bif (x1.kind == 1) then (q21 ([110, 117, 108, 108] : Str) x2 (fun y3 y4 => k0 y4)) else (bif (x1.kind == 2) then (q21 ([102, 97, 108, 115, 101] : Str) x2 (fun y5 y6 => k0 y6)) else (bif (x1.kind == 3) then (q21 ([116, 114, 117, 101] : Str) x2 (fun y7 y8 => k0 y8)) else (bif (x1.kind == 4) then (q64 x1.num (fun y9 => q21 y9 x2 (fun y10 y11 => k0 y11))) else (bif (x1.kind == 5) then (q56 x1.text x2 (fun y12 => k0 y12)) else (bif (x1.kind == 7) then (j33 ([123, 125] : Str)) else (j33 ([91, 93] : Str)))))))
noncomputable def q59_B {R : Type} (h_q59 : q59_ty R) : q59_ty R := fun x1 x2 k0 => q59_X q64 q25 q21 q56 (q59_18_0_L h_q59) x1 x2 k0
theorem q59_ok {R : Type} (q64 : q64_ty R) (q25 : q25_ty R) (q21 : q21_ty R) (h_q59 : q59_ty R) (q56 : q56_ty R) (q59_18_0_L : q59_18_0_ty R) (x1 : Json) (x2 : List Int) (k : V → Heap → Option R) : funK tt (q59_E R q64 q25 q21 h_q59 q56) (q59_T R q59_18_0_L) false Tryz.f38 (codeOf Tryz.f38) [.ptr 0 0, .agg [.int .i64 x1.kind, .int .i64 x1.num.mant, .int .i64 x1.num.exp, .str x1.text, .sl .str x1.names .no, .sl .json x1.items .no]] [.bld (.sl (.int .u8) x2 (.own 1)), .tok] k =
    q59_X q64 q25 q21 q56 q59_18_0_L x1 x2 (fun q0 => k (.tuple []) [.bld (.sl (.int .u8) q0 (.own 2)), .dead, .tok]) := by kernel_rfl
theorem q59_loops (R : Type) (h_q59 : q59_ty R) : ∀ a ∈ loopsOf (codeOf Tryz.f38), LoopOk tt (q59_E R q64 q25 q21 h_q59 q56) (q59_T R (q59_18_0_L h_q59)) 2 a := by
  refine loops_ok 1 (by kernel_rfl) fun i hi => ?_
  match i, hi with
  | 0, _ => exact loopOk_some (by kernel_rfl) (q59_18_0_ok h_q59 _ loopNo_ok)
  | n + 1, hi => omega
theorem q59_S_okB (R : Type) (h_q59 : q59_ty R) (y_q59 : Yard.Spec.Ok Tryz.prog 38 (specBy q59_p q59_q (q59_rr h_q59) specNo)) (other : Yard.Spec R) (ho : Yard.Spec.Ok Tryz.prog 38 other) : Yard.Spec.Ok Tryz.prog 38 (specBy q59_p q59_q (q59_rr (q59_B h_q59)) other) :=
  specBy_ok ho (funK_sound TT mixed (q59_EOk R h_q59 y_q59) (keep := false) rfl rfl rfl rfl 2 (q59_loops R h_q59)) fun (x : Pat.dens q59_p) (y : HPat.dens q59_q) k => q59_ok q64 q25 q21 h_q59 q56 (q59_18_0_L h_q59) (⟨x.2.1.1, ⟨x.2.1.2.1, x.2.1.2.2.1⟩, x.2.1.2.2.2.1, x.2.1.2.2.2.2.1, x.2.1.2.2.2.2.2.1⟩ : Json) y.1 k
noncomputable def q59_N {R : Type} : Nat → q59_ty R
  | 0, _, _, _ => none
  | n + 1, x0', x1', k0' => q59_B (q59_N n) x0' x1' k0'
theorem q59_N_succ {R : Type} (n : Nat) : q59_N (R := R) (n + 1) = q59_B (q59_N n) := by kernel_rfl
theorem q59_N_ok (R : Type) : ∀ n, Yard.Spec.Ok Tryz.prog 38 (specBy q59_p q59_q (q59_rr (q59_N (R := R) n)) specNo) :=
  specBy_fuel (run := fun n => q59_rr (q59_N (R := R) n)) (fun x y k => by kernel_rfl) fun n hyp => q59_S_okB R (q59_N n) hyp specNo (specNo_ok _)
noncomputable def q59 {R : Type} : q59_ty R := fun x1 x2 k0 => q59_N (Json.depth x1 + 2) x1 x2 k0
theorem q59_r_ok (R : Type) : q59_rr (R := R) q59 = fun x y k => q59_rr (q59_N (Json.depth (⟨x.2.1.1, ⟨x.2.1.2.1, x.2.1.2.2.1⟩, x.2.1.2.2.2.1, x.2.1.2.2.2.2.1, x.2.1.2.2.2.2.2.1⟩ : Json) + 2)) x y k := by kernel_rfl
theorem q59_S_ok (R : Type) (other : Yard.Spec R) (ho : Yard.Spec.Ok Tryz.prog 38 other) : Yard.Spec.Ok Tryz.prog 38 (specBy q59_p q59_q (q59_rr q59) other) :=
  specBy_run (specBy_at (run := fun n => q59_rr (q59_N (R := R) n)) (fun x y => (Json.depth (⟨x.2.1.1, ⟨x.2.1.2.1, x.2.1.2.2.1⟩, x.2.1.2.2.2.1, x.2.1.2.2.2.2.1, x.2.1.2.2.2.2.2.1⟩ : Json) + 2)) ho (q59_N_ok R)) (q59_r_ok R)
end Go.Proofs.YtmlkkgfenfdndaaGreatDoor
set_option maxRecDepth 100000
namespace Go.Proofs.YtmlkkgfenfdndaaGreatDoor
open Go Go.Yard Go.Lib
mutual
def lenJ : Json → Bool
  | ⟨_, _, t, ns, is⟩ => decide (ns.length ≤ 1099511627776) && decide (is.length ≤ 1099511627776) && lenL is && (decide (t.length ≤ 10000000000) && ns.all fun n => decide (n.length ≤ 10000000000))
def lenL : List Json → Bool
  | [] => true
  | x :: l => lenJ x && lenL l
end
theorem lenL_mem : ∀ {l : List Json} {x : Json}, lenL l = true → x ∈ l → lenJ x = true
  | y :: l, x, h, hx => by
    simp only [lenL, Bool.and_eq_true] at h
    rcases List.mem_cons.1 hx with rfl | hx
    · exact h.1
    · exact lenL_mem h.2 hx
theorem lenJ_iff {v : Json} : lenJ v = true ↔ v.names.length ≤ 1099511627776 ∧ v.items.length ≤ 1099511627776 ∧ lenL v.items = true ∧ v.text.length ≤ 10000000000 ∧ ∀ n ∈ v.names, n.length ≤ 10000000000 := by
  obtain ⟨k, n, t, ns, is⟩ := v
  simp [lenJ, and_assoc]
theorem keyEq_str (a b : Str) : keyEq .str a b = (a == b) := rfl
def seenM (m : List (Str × Bool)) (n : Str) : Bool := mapGet .str .bool n m
theorem seen_put (m : List (Str × Bool)) (a b : Str) : seenM (mapPut .str .bool a true m) b = ((b == a) || seenM m b) := by
  induction m with
  | nil =>
    show (bif keyEq .str b a then true else false) = _
    rw [keyEq_str]
    cases b == a <;> rfl
  | cons e m ih =>
    unfold seenM at ih ⊢
    show mapGet .str .bool b (bif keyEq .str a e.1 then (a, true) :: m else e :: mapPut .str .bool a true m) = ((b == a) || (bif keyEq .str b e.1 then e.2 else mapGet .str .bool b m))
    rw [keyEq_str, keyEq_str]
    by_cases h1 : a = e.1
    · have h1' : (a == e.1) = true := by simpa using h1
      rw [h1', cond_true]
      show (bif keyEq .str b a then true else mapGet .str .bool b m) = _
      rw [keyEq_str, ← h1]
      cases b == a <;> rfl
    · have h1' : (a == e.1) = false := by simpa using h1
      rw [h1', cond_false]
      show (bif keyEq .str b e.1 then e.2 else mapGet .str .bool b (mapPut .str .bool a true m)) = _
      rw [keyEq_str, ih]
      by_cases h2 : b = a
      · have h3 : (b == e.1) = false := by rw [h2]; exact h1'
        rw [h3]
        rfl
      · have h3 : (b == a) = false := by simpa using h2
        rw [h3]
        rfl
theorem unique_loop {R : Type} (ns : List Str) (hl : ns.length ≤ 1099511627776) (k : Bool → Option R) : ∀ (F i : Nat) (m : List (Str × Bool)) (seen : List Str), i ≤ ns.length → ns.length - i < F → (∀ n, seenM m n = seen.contains n) →
    q69_3_0_L F ns (ns.length : Int) (i : Int) m (k true) k = k (uniqN seen (ns.drop i)) := by
  intro F
  induction F with
  | zero => intro i m seen _ h; omega
  | succ F ih =>
    intro i m seen hi hF hm
    show q69_3_0_B q68 (fun x0 x1 x2 x3 => q69_3_0_L F x0 x1 x2 x3 (k true) k) ns (ns.length : Int) (i : Int) m (k true) k = _
    unfold q69_3_0_B
    by_cases h : i < ns.length
    · have h1 : decide ((i : Int) < (ns.length : Int)) = true := by simp; omega
      have h2 : (decide ((0 : Int) ≤ (i : Int)) && true) = true := by simp
      have hw : IntKind.i64.wrap ((i : Int) + 1) = ((i + 1 : Nat) : Int) := by rw [wrap_id (by omega) (by omega)]; omega
      have hg : ns.getD (i : Int).toNat (Ty.dflt .str) = ns[i] := getD_at h _
      have hsn : mapGet .str .bool ns[i] m = seen.contains ns[i] := hm ns[i]
      rw [h1, cond_true, chk_pos h2, hg, hsn, hw, whole_eq, List.drop_eq_getElem_cons h]
      simp only [uniqN]
      cases seen.contains ns[i] with
      | true => rfl
      | false =>
        cases validS ns[i] with
        | false => rfl
        | true =>
          simp only [cond_false, Bool.not_true, Bool.not_false, Bool.true_and]
          refine ih (i + 1) _ (ns[i] :: seen) (by omega) (by omega) fun n => ?_
          rw [seen_put, hm]
          simp only [List.contains_cons]
    · have h1 : decide ((i : Int) < (ns.length : Int)) = false := by simp; omega
      rw [h1, cond_false, List.drop_eq_nil_of_le (by omega)]
      rfl
theorem unique_any {R : Type} (ns : List Str) (hl : ns.length ≤ 1099511627776) (k : Bool → Option R) : q69 ns k = k (uniqN [] ns) := by
  have := unique_loop ns hl k (List.length ns + Int.natAbs (ns.length : Int) + Int.natAbs 0 + List.length ([] : List (Str × Bool)) + 64) 0 [] [] (by omega) (by omega) fun n => rfl
  rw [List.drop_zero] at this
  exact this
theorem rightL_loop {R : Type} (f : q80_ty R) (is : List Json) (hl : is.length ≤ 1099511627776) (d : Int) (hd : 0 ≤ d ∧ d ≤ 16) (hf : ∀ x ∈ is, ∀ k : Bool → Option R, f x (d + 1) k = k (rightJ x (d + 1))) (k : Bool → Int → Option R) : ∀ (F i : Nat), i ≤ is.length → is.length - i < F →
    q23_2_0_L f F is (is.length : Int) (i : Int) d (fun y => k (decide ((-1 : Int) ≥ 0)) y) (fun x y => k (decide (x ≥ 0)) y) = k (!rightL (is.drop i) (d + 1)) d := by
  intro F
  induction F with
  | zero => intro i _ h; omega
  | succ F ih =>
    intro i hi hF
    show q23_2_0_B (q54 f) (fun x0 x1 x2 x3 => q23_2_0_L f F x0 x1 x2 x3 _ _) is (is.length : Int) (i : Int) d _ _ = _
    unfold q23_2_0_B
    by_cases h : i < is.length
    · have h1 : decide ((i : Int) < (is.length : Int)) = true := by simp; omega
      have h2 : (decide ((0 : Int) ≤ (i : Int)) && true) = true := by simp
      have hw : IntKind.i64.wrap ((i : Int) + 1) = ((i + 1 : Nat) : Int) := by rw [wrap_id (by omega) (by omega)]; omega
      have hwd : IntKind.i64.wrap (d + 1) = d + 1 := wrap_id (by omega) (by omega)
      have hg : is.getD (i : Int).toNat (Ty.dflt .json) = is[i] := getD_at h _
      have hj : (decide ((i : Int) ≥ 0)) = true := by simp
      have he : ∀ (x : Json) (q : Bool → Int → Option R), q54 f x d q = f x (IntKind.i64.wrap (d + 1)) fun y => q (!y) d := fun x q => by
        show q54_X f x d q = _
        unfold q54_X
        simp only [Json.eta]
      rw [h1, cond_true, chk_pos h2, hg, Json.eta, he, hwd, hf _ (List.getElem_mem h), List.drop_eq_getElem_cons h]
      simp only [rightL]
      cases rightJ is[i] (d + 1) with
      | false => simp only [Bool.not_false, cond_true, Bool.false_and, hj]
      | true =>
        simp only [Bool.not_true, cond_false, Bool.true_and]
        rw [hw]
        exact ih (i + 1) (by omega) (by omega)
    · have h1 : decide ((i : Int) < (is.length : Int)) = false := by simp; omega
      rw [h1, cond_false, List.drop_eq_nil_of_le (by omega)]
      rfl
theorem containsFunc {R : Type} (f : q80_ty R) (is : List Json) (hl : is.length ≤ 1099511627776) (d : Int) (hd : 0 ≤ d ∧ d ≤ 16) (hf : ∀ x ∈ is, ∀ k : Bool → Option R, f x (d + 1) k = k (rightJ x (d + 1))) (k : Bool → Int → Option R) :
    q19 f is d k = k (!rightL is (d + 1)) d := by
  have := rightL_loop f is hl d hd hf k (List.length is + Int.natAbs (is.length : Int) + Int.natAbs 0 + Int.natAbs d + 64) 0 (by omega) (by omega)
  rw [List.drop_zero] at this
  exact this
theorem jdepthL_mem {l : List Json} {y : Json} (h : y ∈ l) : y.depth ≤ Json.depthL l := by
  induction l with
  | nil => cases h
  | cons a l ih =>
    simp only [Json.depthL]
    rcases List.mem_cons.1 h with rfl | h
    · exact Nat.le_max_left _ _
    · exact Nat.le_trans (ih h) (Nat.le_max_right _ _)
theorem jdepth_eq (x : Json) : x.depth = Json.depthL x.items + 1 := by cases x; simp [Json.depth]
theorem jdepth_item {x y : Json} (h : y ∈ x.items) : y.depth < x.depth := by rw [jdepth_eq x]; exact Nat.lt_succ_of_le (jdepthL_mem h)
theorem bare_eq {R : Type} (k n1 n2 : Int) (t : Str) (ns : List Str) (is : List Json) (q : Json → Option R) : q86 ⟨k, ⟨n1, n2⟩, t, ns, is⟩ q =
    q ⟨k, if k = 4 then ⟨0, 0⟩ else ⟨n1, n2⟩, if k = 5 then [] else t, if k = 7 then [] else ns, if k = 6 ∨ k = 7 then [] else is⟩ := by
  show q86_X _ q = _
  unfold q86_X
  simp only
  by_cases h4 : k = 4
  · subst h4; rfl
  by_cases h5 : k = 5
  · subst h5; rfl
  by_cases h7 : k = 7
  · subst h7; rfl
  by_cases h6 : k = 6
  · subst h6; rfl
  have e4 : (k == 4) = false := by simpa using h4
  have e5 : (k == 5) = false := by simpa using h5
  have e6 : (k == 6) = false := by simpa using h6
  have e7 : (k == 7) = false := by simpa using h7
  rw [e4, e5, e6, e7]
  simp [h4, h5, h6, h7]
theorem chain {R : Type} (k : Bool → Option R) {a b c : Bool} {x : Option R} {r : Bool} (hx : a = true → b = true → c = false → x = k r) (hr : (a = true ∧ b = true ∧ c = false) ∨ r = false) :
    (bif !a then k false else (bif !b then k false else (bif c then k false else x))) = k r := by
  cases a with
  | false =>
    rcases hr with ⟨h, _⟩ | rfl
    · cases h
    · rfl
  | true =>
    cases b with
    | false =>
      rcases hr with ⟨_, h, _⟩ | rfl
      · cases h
      · rfl
    | true =>
      cases c with
      | true =>
        rcases hr with ⟨_, _, h⟩ | rfl
        · cases h
        · rfl
      | false => exact hx rfl rfl rfl
theorem right_N {R : Type} : ∀ (n : Nat) (v : Json) (d : Int), lenJ v = true → v.depth < n → 0 ≤ d → d ≤ 17 → ∀ k : Bool → Option R, q80_N n v d k = k (rightJ v d) := by
  intro n
  induction n with
  | zero => intro v d _ h; omega
  | succ n ih =>
    intro v d hv hn hd0 hd1 k
    obtain ⟨hns, his, hil, _⟩ := lenJ_iff.1 hv
    have he : q80_N (n + 1) v d k = q80_X q68 q63 q86 q69 (q19 (q80_N n)) v d k := rfl
    rw [he]
    have hcf : d ≤ 16 → ∀ q : Bool → Int → Option R, q19 (q80_N n) v.items d q = q (!rightL v.items (d + 1)) d := fun h16 q =>
      containsFunc _ _ his d ⟨hd0, h16⟩ (fun x hx k => ih x (d + 1) (lenL_mem hil hx) (by have := jdepth_item hx; omega) (by omega) (by omega) k) q
    obtain ⟨kd, ⟨n1, n2⟩, t, ns, is⟩ := v
    unfold q80_X
    simp only at hns his hcf ⊢
    rw [bare_eq]
    simp only
    by_cases h16 : d ≤ 16
    rotate_left
    · have e1 : decide (d > 16) = true := by simp; omega
      rw [e1, cond_true]
      simp [rightJ, h16]
    have e1 : decide (d > 16) = false := by simp; omega
    rw [e1, cond_false]
    by_cases hk1 : kd < 1
    · have e2 : decide (kd < 1) = true := by simpa using hk1
      have : ¬ 1 ≤ kd := by omega
      rw [e2, cond_true]
      simp [rightJ, this]
    have e2 : decide (kd < 1) = false := by simpa using hk1
    rw [e2, cond_false]
    by_cases hk7 : kd > 7
    · have e3 : decide (kd > 7) = true := by simpa using hk7
      have : ¬ kd ≤ 7 := by omega
      rw [e3, cond_true]
      simp [rightJ, this]
    have e3 : decide (kd > 7) = false := by simpa using hk7
    rw [e3, cond_false]
    have hk : kd = 1 ∨ kd = 2 ∨ kd = 3 ∨ kd = 4 ∨ kd = 5 ∨ kd = 6 ∨ kd = 7 := by omega
    have hsum : ∀ a b : Nat, a ≤ 1099511627776 → b ≤ 1099511627776 → decide (IntKind.i64.wrap ((a : Int) + (b : Int)) > 0) = !(a == 0 && b == 0) := by
      intro a b ha hb
      rw [wrap_id (by omega) (by omega)]
      rw [Bool.eq_iff_iff, decide_eq_true_eq]
      simp only [Bool.not_eq_true', Bool.and_eq_false_iff, beq_eq_false_iff_ne]
      omega
    have hie : ∀ l : List Str, (l.length == 0) = l.isEmpty := fun l => by cases l <;> rfl
    have hje : ∀ l : List Json, (l.length == 0) = l.isEmpty := fun l => by cases l <;> rfl
    have hte : ∀ l : Str, (l == ([] : Str)) = l.isEmpty := fun l => by cases l <;> rfl
    have hnil : ∀ d : Int, rightL [] d = true := fun _ => rfl
    have hnum : ∀ a b : Int, ((a == 0) && ((b == 0) && true)) = (a == 0 && b == 0) := fun a b => by cases a == 0 <;> cases b == 0 <;> rfl
    have hcf0 : ∀ q : Bool → Int → Option R, is.isEmpty = true → q19 (q80_N n) is d q = q false d := fun q h => by
      rw [hcf h16]
      obtain rfl : is = [] := List.isEmpty_iff.1 h
      rfl
    have hbool : ∀ a b c : Bool, (a = true ∧ b = true ∧ (!c) = false) ∨ ((a && b) && c) = false := by decide
    have hb4 : ∀ b c q : Bool, (true = true ∧ b = true ∧ (!c) = false) ∨ ((b && c) && q) = false := by decide
    have hb5 : ∀ a c q : Bool, (a = true ∧ true = true ∧ (!c) = false) ∨ ((a && c) && q) = false := by decide
    have hb6 : ∀ a b c q : Bool, (a = true ∧ b = true ∧ (!c) = false) ∨ (((a && b) && c) && q) = false := by decide
    have hb7 : ∀ a b q : Bool, (a = true ∧ b = true ∧ false = false) ∨ ((a && b) && q) = false := by decide
    rcases hk with rfl | rfl | rfl | rfl | rfl | rfl | rfl
    · have hr : rightJ ⟨1, ⟨n1, n2⟩, t, ns, is⟩ d = (((n1 == 0 && n2 == 0) && t.isEmpty) && (ns.isEmpty && is.isEmpty)) := by
        cases is <;> simp [rightJ, rightL, h16]
      simp only [Int.reduceEq, if_false, or_self, hnum]
      rw [hsum _ _ hns his, hie, hje, hte, hr]
      refine chain k (fun h1 h2 h3 => ?_) (hbool _ _ _)
      have h4 : ns.isEmpty = true ∧ is.isEmpty = true := by simpa using h3
      rw [h1, h2, h4.1, h4.2]
      show q19 (q80_N n) is d (fun y13 y14 => k (!y13)) = k true
      exact hcf0 _ h4.2
    · have hr : rightJ ⟨2, ⟨n1, n2⟩, t, ns, is⟩ d = (((n1 == 0 && n2 == 0) && t.isEmpty) && (ns.isEmpty && is.isEmpty)) := by
        cases is <;> simp [rightJ, rightL, h16]
      simp only [Int.reduceEq, if_false, or_self, hnum]
      rw [hsum _ _ hns his, hie, hje, hte, hr]
      refine chain k (fun h1 h2 h3 => ?_) (hbool _ _ _)
      have h4 : ns.isEmpty = true ∧ is.isEmpty = true := by simpa using h3
      rw [h1, h2, h4.1, h4.2]
      show q19 (q80_N n) is d (fun y13 y14 => k (!y13)) = k true
      exact hcf0 _ h4.2
    · have hr : rightJ ⟨3, ⟨n1, n2⟩, t, ns, is⟩ d = (((n1 == 0 && n2 == 0) && t.isEmpty) && (ns.isEmpty && is.isEmpty)) := by
        cases is <;> simp [rightJ, rightL, h16]
      simp only [Int.reduceEq, if_false, or_self, hnum]
      rw [hsum _ _ hns his, hie, hje, hte, hr]
      refine chain k (fun h1 h2 h3 => ?_) (hbool _ _ _)
      have h4 : ns.isEmpty = true ∧ is.isEmpty = true := by simpa using h3
      rw [h1, h2, h4.1, h4.2]
      show q19 (q80_N n) is d (fun y13 y14 => k (!y13)) = k true
      exact hcf0 _ h4.2
    · have hr : rightJ ⟨4, ⟨n1, n2⟩, t, ns, is⟩ d = ((t.isEmpty && (ns.isEmpty && is.isEmpty)) && fmB ⟨n1, n2⟩) := by
        simp [rightJ, h16, Bool.and_assoc]
      simp only [Int.reduceEq, if_false, if_true, or_self]
      rw [hsum _ _ hns his, hie, hje, hte, hr]
      refine chain k (a := true) (b := t.isEmpty) (c := !(ns.isEmpty && is.isEmpty)) (fun h1 h2 h3 => ?_) (hb4 _ _ _)
      have h4 : ns.isEmpty = true ∧ is.isEmpty = true := by simpa using h3
      rw [h2, h4.1, h4.2]
      exact right_any _ _
    · have hr : rightJ ⟨5, ⟨n1, n2⟩, t, ns, is⟩ d = (((n1 == 0 && n2 == 0) && (ns.isEmpty && is.isEmpty)) && validS t) := by
        simp [rightJ, h16, Bool.and_assoc]
      simp only [Int.reduceEq, if_false, if_true, or_self, hnum]
      rw [hsum _ _ hns his, hie, hje, hr]
      refine chain k (a := (n1 == 0 && n2 == 0)) (b := true) (c := !(ns.isEmpty && is.isEmpty)) (fun h1 h2 h3 => ?_) (hb5 _ _ _)
      have h4 : ns.isEmpty = true ∧ is.isEmpty = true := by simpa using h3
      rw [h1, h4.1, h4.2]
      exact whole_eq _ _
    · have hr : rightJ ⟨6, ⟨n1, n2⟩, t, ns, is⟩ d = ((((n1 == 0 && n2 == 0) && t.isEmpty) && ns.isEmpty) && rightL is (d + 1)) := by
        simp [rightJ, h16, Bool.and_assoc]
      simp only [Int.reduceEq, if_false, if_true, true_or, hnum]
      have hs2 := hsum ns.length 0 hns (by omega)
      have hq : ((0 : Nat) == 0) = true := rfl
      rw [hq, Bool.and_true, hie] at hs2
      rw [List.length_nil, hs2, hte, hr]
      refine chain k (a := (n1 == 0 && n2 == 0)) (b := t.isEmpty) (c := !ns.isEmpty) (fun h1 h2 h3 => ?_) (hb6 _ _ _ _)
      have h4 : ns.isEmpty = true := by simpa using h3
      rw [h1, h2, h4]
      show q19 (q80_N n) is d (fun y13 y14 => k (!y13)) = k (rightL is (d + 1))
      rw [hcf h16, Bool.not_not]
    · have hr : rightJ ⟨7, ⟨n1, n2⟩, t, ns, is⟩ d = (((n1 == 0 && n2 == 0) && t.isEmpty) && (decide (ns.length = is.length) && uniqN [] ns && rightL is (d + 1))) := by
        simp [rightJ, h16, Bool.and_assoc]
      simp only [Int.reduceEq, if_false, if_true, or_true, hnum]
      have hs2 := hsum 0 0 (by omega) (by omega)
      rw [List.length_nil, List.length_nil, hs2, hte, hr]
      refine chain k (a := (n1 == 0 && n2 == 0)) (b := t.isEmpty) (c := false) (fun h1 h2 h3 => ?_) (hb7 _ _ _)
      rw [h1, h2]
      show (bif ((ns.length : Int) != (is.length : Int)) then k false else q69 ns (fun y7 => bif !y7 then k false else q19 (q80_N n) is d (fun y11 y12 => k (!y11)))) = _
      by_cases hl : ns.length = is.length
      · have e9 : ((ns.length : Int) != (is.length : Int)) = false := by rw [hl]; simp
        rw [e9, cond_false, unique_any ns hns, hcf h16, Bool.not_not]
        cases uniqN [] ns <;> simp [hl]
      · have e9 : ((ns.length : Int) != (is.length : Int)) = true := by simp; omega
        rw [e9, cond_true]
        simp [hl]
theorem right_json {R : Type} (v : Json) (hv : lenJ v = true) (k : Bool → Option R) : q83 v k = k (rightJ v 1) := by
  have e : q83 v k = q83_X q80 v k := rfl
  rw [e]
  unfold q83_X
  simp only [Json.eta]
  exact right_N (v.depth + 2) v 1 hv (by omega) (by omega) (by omega) k
abbrev Bad := Int × List Token
def signS (x : Str) : List Token → Option (List Token)
  | t :: r => if t.kind = 1 ∧ t.text = x then some r else none
  | [] => none
def nameS (ns : List Str) : List Token → Except Bad (Str × List Token)
  | t :: r =>
    if t.kind ≠ 2 then .error (40, t :: r) else if ns.contains t.text then .error (42, t :: r) else
      match signS [58] r with
      | some r' => .ok (t.text, r')
      | none => .error (40, r)
  | [] => .error (0, [])
def partS (f : List Token → Except Bad (Json × List Token)) (obj : Bool) (ns : List Str) (is : List Json) (ts : List Token) : Except Bad ((List Str × List Json) × List Token) :=
  match obj with
  | true =>
    (match nameS ns ts with
     | .error b => .error b
     | .ok (nm, ts1) => (match f ts1 with | .error b => .error b | .ok (v, ts2) => .ok ((ns ++ [nm], is ++ [v]), ts2)))
  | false => (match f ts with | .error b => .error b | .ok (v, ts2) => .ok ((ns, is ++ [v]), ts2))
def listS (f : List Token → Except Bad (Json × List Token)) (cl : Str) (obj : Bool) : Nat → List Str → List Json → List Token → Except Bad ((List Str × List Json) × List Token)
  | 0, _, _, ts => .error (0, ts)
  | m + 1, ns, is, ts =>
    match partS f obj ns is ts with
    | .error b => .error b
    | .ok (p, ts2) =>
      match signS cl ts2 with
      | some r => .ok (p, r)
      | none =>
        match signS [44] ts2 with
        | some r => listS f cl obj m p.1 p.2 r
        | none => .error (40, ts2)
def namedB (t : Str) : Bool := t == nullS || (t == falseS || t == trueS)
def namesM : List (Str × Int) := [(nullS, 1), (falseS, 2), (trueS, 3)]
def openB (t : Str) : Bool := t == [91] || t == [123]
def startB (t : Token) : Bool := t.kind == 2 || (t.kind == 3 || (t.kind == 4 || (t.kind == 1 && openB t.text)))
def valS : Nat → Int → List Token → Except Bad (Json × List Token)
  | 0, _, ts => .error (0, ts)
  | _ + 1, _, [] => .error (0, [])
  | n + 1, d, t :: r =>
    if startB t = false then .error (40, t :: r) else
    if d > 16 then .error (41, t :: r) else
    if t.kind = 1 ∧ openB t.text = true then
      let obj := t.text == [123]
      let k : Int := if obj then 7 else 6
      let cl : Str := if obj then [125] else [93]
      match signS cl r with
      | some r' => .ok (⟨k, ⟨0, 0⟩, [], [], []⟩, r')
      | none =>
        match listS (valS n (d + 1)) cl obj (r.length + 1) [] [] r with
        | .error b => .error b
        | .ok (p, r') => .ok (⟨k, ⟨0, 0⟩, [], p.1, p.2⟩, r')
    else if t.kind = 4 ∧ namedB t.text = true then .ok (⟨mapGet .str (.int .i64) t.text namesM, ⟨0, 0⟩, [], [], []⟩, r)
    else if t.kind = 3 then .ok (⟨4, t.num, [], [], []⟩, r)
    else .ok (⟨5, ⟨0, 0⟩, t.text, [], []⟩, r)
def endT (ts : List Token) : Prop := ∃ e, ts.getLast? = some e ∧ e.kind = 5
theorem endT.tail {t : Token} {r : List Token} (h : endT (t :: r)) (ht : t.kind ≠ 5) : endT r := by
  obtain ⟨e, h1, h2⟩ := h
  cases r with
  | nil =>
    simp at h1
    subst h1
    exact (ht h2).elim
  | cons u r => exact ⟨e, by simpa [List.getLast?_cons_cons] using h1, h2⟩
section
variable {R : Type} (hrec : q42_ty R) (d : Int) (t : Token) (r : List Token) (k : Json → List Token → Int → Option R)
end
end Go.Proofs.YtmlkkgfenfdndaaGreatDoor
/-
  Functions of the program as pure Lean functions, and the ties; printed by wip/tools/emit.py.
-/
set_option maxRecDepth 100000
namespace Go.Proofs.YtmlkkgfenfdndaaGreatDoor
open Go Go.Yard
end Go.Proofs.YtmlkkgfenfdndaaGreatDoor
set_option maxRecDepth 100000
namespace Go.Proofs.YtmlkkgfenfdndaaGreatDoor
open Go Go.Yard Go.Lib
end Go.Proofs.YtmlkkgfenfdndaaGreatDoor
/-
  Functions of the program as pure Lean functions, and the ties; printed by wip/tools/emit.py.
-/
set_option maxRecDepth 100000
namespace Go.Proofs.YtmlkkgfenfdndaaGreatDoor
open Go Go.Yard
end Go.Proofs.YtmlkkgfenfdndaaGreatDoor
set_option maxRecDepth 100000
namespace Go.Proofs.YtmlkkgfenfdndaaGreatDoor
open Go Go.Yard Go.Lib
structure RawW (R : Type) (x : Raw3) (p : Str × Token) : Prop where
  word : Word p.1 p.2
  len : p.1.length ≤ 182
  run : ∀ k : Str → Option R, q74 x k = k p.1
  kind : ∃ q : Int, p.2.kind = 1 + q ∧ 0 ≤ q ∧ q < 4 ∧ ∀ k : Int → Option R, q73 x.kind 4 k = k q
  text : p.2.kind = 2 → ∀ k : Str → Bool → Option R, q70 p.2.text k = k p.1 true
  other : p.2.kind ≠ 2 → p.2.text = p.1
  num : p.2.kind = 3 → ∀ k : Dcm → Option R, q85 x.mant x.exp k = k p.2.num
end Go.Proofs.YtmlkkgfenfdndaaGreatDoor
/-
  Functions of the program as pure Lean functions, and the ties; printed by wip/tools/emit.py.
-/
set_option maxRecDepth 100000
namespace Go.Proofs.YtmlkkgfenfdndaaGreatDoor
open Go Go.Yard
end Go.Proofs.YtmlkkgfenfdndaaGreatDoor
/-
  Functions of the program as pure Lean functions, and the ties; printed by wip/tools/emit.py.
-/
set_option maxRecDepth 100000
namespace Go.Proofs.YtmlkkgfenfdndaaGreatDoor
open Go Go.Yard
end Go.Proofs.YtmlkkgfenfdndaaGreatDoor
set_option maxRecDepth 100000
namespace Go.Proofs.YtmlkkgfenfdndaaGreatDoor
open Go Go.Yard Go.Lib
def stT (t : Token) : Int × Str × Dcm := (t.kind, t.text, t.num)
theorem tokW_st : ∀ (l : List Item3) (p : Nat), (tokW p l).map stT = l.map fun x => stT x.2.2
  | [], _ => rfl
  | x :: l, p => by simp only [tokW, List.map_cons, tokW_st l]; rfl
def stW (x : Item3) : Int × Str × Dcm := stT x.2.2
theorem st_cons {ts : List Token} {x : Item3} {l : List Item3} (h : ts.map stT = (x :: l).map stW) : ∃ t r, ts = t :: r ∧ stT t = stW x ∧ r.map stT = l.map stW := by
  cases ts with
  | nil => cases h
  | cons t r =>
    simp only [List.map_cons, List.cons.injEq] at h
    exact ⟨t, r, rfl, h.1, h.2⟩
theorem st_app {ts : List Token} {a b : List Item3} (h : ts.map stT = (a ++ b).map stW) : ∃ u v, ts = u ++ v ∧ u.map stT = a.map stW ∧ v.map stT = b.map stW := by
  rw [List.map_append] at h
  obtain ⟨u, v, e, h1, h2⟩ := List.map_eq_append_iff.1 h
  exact ⟨u, v, e, h1, h2⟩
theorem st_one {ts : List Token} {x : Item3} (h : ts.map stT = [x].map stW) : ∃ t, ts = [t] ∧ stT t = stW x := by
  obtain ⟨t, r, e, h1, h2⟩ := st_cons h
  cases r with
  | nil => exact ⟨t, e, h1⟩
  | cons u r => cases h2
theorem st_kind {t : Token} {x : Item3} (h : stT t = stW x) : t.kind = x.2.2.kind ∧ t.text = x.2.2.text ∧ t.num = x.2.2.num := by
  unfold stW stT at h
  simp only [Prod.mk.injEq] at h
  exact h
theorem val_name {n : Nat} {d : Int} (hd : d ≤ 16) {t : Token} {rest : List Token} {x : Str} (hx : x = nullS ∨ x = falseS ∨ x = trueS) (hk : t.kind = 4) (ht : t.text = x) :
    valS (n + 1) d (t :: rest) = .ok (⟨mapGet .str (.int .i64) x namesM, ⟨0, 0⟩, [], [], []⟩, rest) := by
  have h1 : startB t = true := by simp [startB, hk]
  have h2 : namedB t.text = true := by
    rw [ht]
    rcases hx with rfl | rfl | rfl <;> rfl
  simp only [valS]
  rw [if_neg (by rw [h1]; simp), if_neg (by omega), if_neg (by rw [hk]; simp), if_pos ⟨hk, h2⟩, ht]
theorem valS_sign {n : Nat} {d : Int} {ts : List Token} {p : Json × List Token} (h : valS n d ts = .ok p) : signS [93] ts = none ∧ signS [125] ts = none := by
  cases n with
  | zero => cases h
  | succ n =>
    cases ts with
    | nil => cases h
    | cons t r =>
      simp only [valS] at h
      by_cases hs : startB t = false
      · rw [if_pos hs] at h; cases h
      · have hne : ∀ x : Str, x = [93] ∨ x = [125] → ¬ (t.kind = 1 ∧ t.text = x) := fun x hx ⟨h1, h2⟩ => by
          apply hs
          rcases hx with rfl | rfl <;> simp [startB, openB, h1, h2]
        simp only [signS]
        rw [if_neg (hne _ (.inl rfl)), if_neg (hne _ (.inr rfl))]
        exact ⟨rfl, rfl⟩
mutual
theorem valS_words : ∀ (v : Json) (d : Int) (n : Nat) (ts rest : List Token), rightJ v d = true → 17 - d < n → ts.map stT = (wordsJ v).map stW → valS n d (ts ++ rest) = .ok (v, rest)
  | ⟨k, nm, t, ns, is⟩, d, 0, ts, rest, h, hn, hw => by
    have : d ≤ 16 := by
      cases rightJ_iff.1 h <;> assumption
    omega
  | ⟨k, nm, t, ns, is⟩, d, n + 1, ts, rest, h, hn, hw => by
    have hL := listS_wL is
    have hO := listS_wO ns is
    cases rightJ_iff.1 h with
    | name _ _ hd hk =>
      have hone : ∀ x : Str, (x = nullS ∨ x = falseS ∨ x = trueS) → ts.map stT = [(([], x, ⟨4, x, ⟨0, 0⟩, 0⟩) : Item3)].map stW → valS (n + 1) d (ts ++ rest) = .ok (⟨mapGet .str (.int .i64) x namesM, ⟨0, 0⟩, [], [], []⟩, rest) := fun x hx hw => by
        obtain ⟨u, rfl, hu⟩ := st_one hw
        obtain ⟨h1, h2, _⟩ := st_kind hu
        exact val_name hd hx h1 h2
      rcases hk with rfl | rfl | rfl
      · exact hone nullS (.inl rfl) hw
      · exact hone falseS (.inr (.inl rfl)) hw
      · exact hone trueS (.inr (.inr rfl)) hw
    | num _ _ hd hnm =>
      obtain ⟨u, rfl, hu⟩ := st_one (x := ([], prtA nm, ⟨3, prtA nm, nm, 0⟩)) hw
      obtain ⟨h1, h2, h3⟩ := st_kind hu
      simp only at h1 h2 h3
      have hs : startB u = true := by simp [startB, h1]
      show valS (n + 1) d (u :: rest) = _
      simp only [valS]
      rw [if_neg (by rw [hs]; simp), if_neg (by omega), if_neg (by rw [h1]; simp), if_neg (by rw [h1]; simp), if_pos h1, h3]
    | text _ _ hd ht =>
      obtain ⟨u, rfl, hu⟩ := st_one (x := txW t) hw
      obtain ⟨h1, h2, h3⟩ := st_kind hu
      simp only [txW] at h1 h2 h3
      have hs : startB u = true := by simp [startB, h1]
      show valS (n + 1) d (u :: rest) = _
      simp only [valS]
      rw [if_neg (by rw [hs]; simp), if_neg (by omega), if_neg (by rw [h1]; simp), if_neg (by rw [h1]; simp), if_neg (by rw [h1]; simp), h2]
    | arr _ _ hd hi =>
      obtain ⟨u, ts2, rfl, hu, hw2⟩ := st_cons (x := sg 91) (l := wordsL is true ++ [sg 93]) hw
      obtain ⟨tl, tc, rfl, hl, hc0⟩ := st_app hw2
      obtain ⟨c, rfl, hc⟩ := st_one hc0
      obtain ⟨h1, h2, _⟩ := st_kind hu
      obtain ⟨c1, c2, _⟩ := st_kind hc
      simp only [sg] at h1 h2 c1 c2
      have hob : openB u.text = true := by rw [h2]; rfl
      have hs : startB u = true := by simp [startB, h1, hob]
      have ho7 : (u.text == ([123] : Str)) = false := by rw [h2]; rfl
      show valS (n + 1) d (u :: (tl ++ [c] ++ rest)) = _
      simp only [valS]
      rw [if_neg (by rw [hs]; simp), if_neg (by omega), if_pos ⟨h1, hob⟩, ho7]
      simp only [Bool.false_eq_true, if_false]
      cases is with
      | nil =>
        obtain rfl : tl = [] := by simpa [wordsL] using hl
        show (match signS [93] (c :: rest) with | some r' => _ | none => _) = _
        have : signS [93] (c :: rest) = some rest := by
          show (if c.kind = 1 ∧ c.text = [93] then some rest else none) = some rest
          rw [if_pos ⟨c1, c2⟩]
        rw [this]
      | cons x l =>
        obtain ⟨e1, e2⟩ := hL d n (tl ++ [c] ++ rest).length.succ [] [] tl c rest (by simp) hi (by omega) (by simp; omega) hl c1 c2
        rw [e1, e2]
        rfl
    | obj _ _ _ hd hlen hu7 hi =>
      obtain ⟨u, ts2, rfl, hu, hw2⟩ := st_cons (x := sg 123) (l := wordsO ns is true ++ [sg 125]) hw
      obtain ⟨tl, tc, rfl, hl, hc0⟩ := st_app hw2
      obtain ⟨c, rfl, hc⟩ := st_one hc0
      obtain ⟨h1, h2, _⟩ := st_kind hu
      obtain ⟨c1, c2, _⟩ := st_kind hc
      simp only [sg] at h1 h2 c1 c2
      have hob : openB u.text = true := by rw [h2]; rfl
      have hs : startB u = true := by simp [startB, h1, hob]
      have ho7 : (u.text == ([123] : Str)) = true := by rw [h2]; rfl
      show valS (n + 1) d (u :: (tl ++ [c] ++ rest)) = _
      simp only [valS]
      rw [if_neg (by rw [hs]; simp), if_neg (by omega), if_pos ⟨h1, hob⟩, ho7]
      simp only [if_true]
      cases is with
      | nil =>
        obtain rfl : ns = [] := List.eq_nil_of_length_eq_zero hlen
        obtain rfl : tl = [] := by simpa [wordsO] using hl
        show (match signS [125] (c :: rest) with | some r' => _ | none => _) = _
        have : signS [125] (c :: rest) = some rest := by
          show (if c.kind = 1 ∧ c.text = [125] then some rest else none) = some rest
          rw [if_pos ⟨c1, c2⟩]
        rw [this]
      | cons x l =>
        obtain ⟨e1, e2⟩ := hO d n (tl ++ [c] ++ rest).length.succ [] [] [] tl c rest (by simp) hlen hi hu7 (fun n => rfl) (by omega) (by simp; omega) hl c1 c2
        rw [e1, e2]
        rfl
theorem listS_wL : ∀ (is : List Json) (d : Int) (n m : Nat) (ns0 : List Str) (is0 : List Json) (tl : List Token) (c : Token) (rest : List Token), is ≠ [] → rightL is (d + 1) = true → 17 - (d + 1) < n → tl.length < m →
    tl.map stT = (wordsL is true).map stW → c.kind = 1 → c.text = [93] → signS [93] (tl ++ [c] ++ rest) = none ∧ listS (valS n (d + 1)) [93] false m ns0 is0 (tl ++ [c] ++ rest) = .ok ((ns0, is0 ++ is), rest)
  | [], _, _, _, _, _, _, _, _, h, _, _, _, _, _, _ => (h rfl).elim
  | x :: l, d, n, 0, ns0, is0, tl, c, rest, _, hr, hn, hm, hw, c1, c2 => by omega
  | x :: l, d, n, m + 1, ns0, is0, tl, c, rest, _, hr, hn, hm, hw, c1, c2 => by
    obtain ⟨tv, tr, rfl, hv, ht⟩ := st_app (a := wordsJ x) (b := wordsL l false) hw
    simp only [rightL, Bool.and_eq_true] at hr
    have hx := valS_words x (d + 1) n tv (tr ++ [c] ++ rest) hr.1 hn hv
    have hL := listS_wL l
    rw [show tv ++ tr ++ [c] ++ rest = tv ++ (tr ++ [c] ++ rest) by simp]
    refine ⟨(valS_sign hx).1, ?_⟩
    have hp : partS (valS n (d + 1)) false ns0 is0 (tv ++ (tr ++ [c] ++ rest)) = .ok ((ns0, is0 ++ [x]), tr ++ [c] ++ rest) := by
      simp only [partS, hx]
    simp only [listS, hp]
    cases l with
    | nil =>
      obtain rfl : tr = [] := by simpa [wordsL] using ht
      have : signS [93] ([] ++ [c] ++ rest) = some rest := by
        show (if c.kind = 1 ∧ c.text = [93] then some rest else none) = some rest
        rw [if_pos ⟨c1, c2⟩]
      rw [this]
    | cons y l' =>
      obtain ⟨u, tr', rfl, hu, ht'⟩ := st_cons (x := sg 44) (l := wordsL (y :: l') true) ht
      obtain ⟨u1, u2, _⟩ := st_kind hu
      simp only [sg] at u1 u2
      have s1 : signS [93] (u :: tr' ++ [c] ++ rest) = none := by
        show (if u.kind = 1 ∧ u.text = [93] then some (tr' ++ [c] ++ rest) else none) = none
        rw [if_neg (by rw [u2]; rintro ⟨_, h⟩; cases h)]
      have s2 : signS [44] (u :: tr' ++ [c] ++ rest) = some (tr' ++ [c] ++ rest) := by
        show (if u.kind = 1 ∧ u.text = [44] then some (tr' ++ [c] ++ rest) else none) = _
        rw [if_pos ⟨u1, u2⟩]
      rw [s1, s2]
      obtain ⟨_, e2⟩ := hL d n m ns0 (is0 ++ [x]) tr' c rest (by simp) hr.2 hn (by simp at hm; omega) ht' c1 c2
      simp only
      rw [e2]
      simp
theorem listS_wO : ∀ (ns : List Str) (is : List Json) (d : Int) (n m : Nat) (ns0 : List Str) (is0 : List Json) (seen : List Str) (tl : List Token) (c : Token) (rest : List Token), is ≠ [] → ns.length = is.length → rightL is (d + 1) = true → uniqN seen ns = true → (∀ n, ns0.contains n = seen.contains n) →
    17 - (d + 1) < n → tl.length < m →
    tl.map stT = (wordsO ns is true).map stW → c.kind = 1 → c.text = [125] → signS [125] (tl ++ [c] ++ rest) = none ∧ listS (valS n (d + 1)) [125] true m ns0 is0 (tl ++ [c] ++ rest) = .ok ((ns0 ++ ns, is0 ++ is), rest)
  | _, [], _, _, _, _, _, _, _, _, _, h, _, _, _, _, _, _, _, _, _ => (h rfl).elim
  | [], x :: l, d, n, m, ns0, is0, seen, tl, c, rest, _, hlen, hr, hu, hsn, hn, hm, hw, c1, c2 => by cases hlen
  | nm :: ns, x :: l, d, n, 0, ns0, is0, seen, tl, c, rest, _, hlen, hr, hu, hsn, hn, hm, hw, c1, c2 => by omega
  | nm :: ns, x :: l, d, n, m + 1, ns0, is0, seen, tl, c, rest, _, hlen, hr, hu, hsn, hn, hm, hw, c1, c2 => by
    obtain ⟨tn, tl1, rfl, hn1, hw1⟩ := st_cons (x := txW nm) (l := sg 58 :: (wordsJ x ++ wordsO ns l false)) hw
    obtain ⟨tk, tl2, rfl, hk1, hw2⟩ := st_cons hw1
    obtain ⟨tv, tr, rfl, hv, ht⟩ := st_app hw2
    obtain ⟨n1, n2, _⟩ := st_kind hn1
    obtain ⟨k1, k2, _⟩ := st_kind hk1
    simp only [txW] at n1 n2
    simp only [sg] at k1 k2
    simp only [rightL, Bool.and_eq_true] at hr
    simp only [uniqN, Bool.and_eq_true, Bool.not_eq_true'] at hu
    have hx := valS_words x (d + 1) n tv (tr ++ [c] ++ rest) hr.1 hn hv
    have hO := listS_wO ns l
    rw [show tn :: tk :: (tv ++ tr) ++ [c] ++ rest = tn :: tk :: (tv ++ (tr ++ [c] ++ rest)) by simp]
    refine ⟨?_, ?_⟩
    · show (if tn.kind = 1 ∧ tn.text = [125] then some _ else none) = none
      rw [if_neg (by rw [n1]; rintro ⟨h, _⟩; cases h)]
    have hnm : nameS ns0 (tn :: tk :: (tv ++ (tr ++ [c] ++ rest))) = .ok (nm, tv ++ (tr ++ [c] ++ rest)) := by
      simp only [nameS]
      rw [if_neg (by rw [n1]; simp), if_neg (by rw [n2, hsn, hu.1.1]; simp)]
      have : signS [58] (tk :: (tv ++ (tr ++ [c] ++ rest))) = some (tv ++ (tr ++ [c] ++ rest)) := by
        show (if tk.kind = 1 ∧ tk.text = [58] then some (tv ++ (tr ++ [c] ++ rest)) else none) = _
        rw [if_pos ⟨k1, k2⟩]
      rw [this, n2]
    have hp : partS (valS n (d + 1)) true ns0 is0 (tn :: tk :: (tv ++ (tr ++ [c] ++ rest))) = .ok ((ns0 ++ [nm], is0 ++ [x]), tr ++ [c] ++ rest) := by
      simp only [partS, hnm, hx]
    simp only [listS, hp]
    cases l with
    | nil =>
      obtain rfl : ns = [] := List.eq_nil_of_length_eq_zero (by simpa using hlen)
      obtain rfl : tr = [] := by simpa [wordsO] using ht
      have : signS [125] ([] ++ [c] ++ rest) = some rest := by
        show (if c.kind = 1 ∧ c.text = [125] then some rest else none) = some rest
        rw [if_pos ⟨c1, c2⟩]
      rw [this]
    | cons y l' =>
      obtain ⟨u, tr', rfl, hu2, ht'⟩ := st_cons (x := sg 44) (l := wordsO ns (y :: l') true) ht
      obtain ⟨u1, u2, _⟩ := st_kind hu2
      simp only [sg] at u1 u2
      have s1 : signS [125] (u :: tr' ++ [c] ++ rest) = none := by
        show (if u.kind = 1 ∧ u.text = [125] then some (tr' ++ [c] ++ rest) else none) = none
        rw [if_neg (by rw [u2]; rintro ⟨_, h⟩; cases h)]
      have s2 : signS [44] (u :: tr' ++ [c] ++ rest) = some (tr' ++ [c] ++ rest) := by
        show (if u.kind = 1 ∧ u.text = [44] then some (tr' ++ [c] ++ rest) else none) = _
        rw [if_pos ⟨u1, u2⟩]
      rw [s1, s2]
      obtain ⟨_, e2⟩ := hO d n m (ns0 ++ [nm]) (is0 ++ [x]) (nm :: seen) tr' c rest (by simp) (by simpa using hlen) hr.2 hu.2 (fun z => by
        rw [List.contains_append, hsn, List.contains_cons, List.contains_cons, List.contains_nil, Bool.or_false, Bool.or_comm]) hn (by simp at hm; omega) ht' c1 c2
      simp only
      rw [e2]
      simp
end
theorem val_tail {v : Json} (h : rightJ v 1 = true) (ts : List Token) (rest : List Token) (hw : ts.map stT = (wordsJ v).map stW) : valS 40 1 (ts ++ rest) = .ok (v, rest) := valS_words v 1 40 ts rest h (by omega) hw
def tight (l : List Item3) : Prop := ∀ x ∈ l, x.1 = []
mutual
theorem tightJ : ∀ v : Json, tight (wordsJ v)
  | ⟨k, n, t, ns, is⟩ => by
    have hL := tightL is
    have hO := tightO ns is
    intro x hx
    simp only [wordsJ] at hx
    split at hx
    · simp at hx; rw [hx]
    split at hx
    · simp at hx; rw [hx]
    split at hx
    · simp at hx; rw [hx]
    split at hx
    · simp at hx; rw [hx]
    split at hx
    · simp [txW] at hx; rw [hx]
    split at hx
    · simp only [List.mem_cons, List.mem_append, List.not_mem_nil, or_false] at hx
      rcases hx with rfl | hx | rfl
      · rfl
      · exact hO true x hx
      · rfl
    · simp only [List.mem_cons, List.mem_append, List.not_mem_nil, or_false] at hx
      rcases hx with rfl | hx | rfl
      · rfl
      · exact hL true x hx
      · rfl
theorem tightL : ∀ (l : List Json) (first : Bool), tight (wordsL l first)
  | [], _ => by intro x hx; simp [wordsL] at hx
  | y :: l, first => by
    have h1 := tightJ y
    have h2 := tightL l false
    intro x hx
    simp only [wordsL, List.mem_append] at hx
    rcases hx with hx | hx | hx
    · cases first
      · simp at hx; rw [hx]; rfl
      · simp at hx
    · exact h1 x hx
    · exact h2 x hx
theorem tightO : ∀ (ns : List Str) (l : List Json) (first : Bool), tight (wordsO ns l first)
  | _, [], _ => by intro x hx; simp [wordsO] at hx
  | ns, y :: l, first => by
    have h1 := tightJ y
    have h2 := tightO ns.tail l false
    intro x hx
    simp only [wordsO, List.mem_append, List.mem_cons] at hx
    rcases hx with hx | rfl | rfl | hx | hx
    · cases first
      · simp at hx; rw [hx]; rfl
      · simp at hx
    · rfl
    · rfl
    · exact h1 x hx
    · exact h2 x hx
end
theorem okW_inj : ∀ (a b : List Item3), tight a → tight b → okW a [] → okW b [] → layW a [] = layW b [] → a.map stW = b.map stW
  | [], [], _, _, _, _, _ => rfl
  | [], y :: b, _, _, _, hb, e => by
    obtain ⟨_, ⟨c, u, hc, _⟩, _⟩ := hb
    simp [layW, hc] at e
  | x :: a, [], _, _, ha, _, e => by
    obtain ⟨_, ⟨c, u, hc, _⟩, _⟩ := ha
    simp [layW, hc] at e
  | x :: a, y :: b, ta, tb, ha, hb, e => by
    obtain ⟨_, _, h1, h2⟩ := ha
    obtain ⟨_, _, g1, g2⟩ := hb
    simp only [layW, ta x (by simp), tb y (by simp), List.nil_append] at e
    rw [e, g1] at h1
    simp only [Option.some.injEq, Prod.mk.injEq] at h1
    have := okW_inj a b (fun z hz => ta z (by simp [hz])) (fun z hz => tb z (by simp [hz])) h2 g2 h1.2.symm
    simp only [List.map_cons, this]
    unfold stW
    rw [h1.1]
theorem print_inj {v w : Json} (hv : rightJ v 1 = true) (hw : rightJ w 1 = true) (e : printJ v = printJ w) : v = w := by
  have h1 := lay_words v []
  have h2 := lay_words w []
  rw [List.append_nil] at h1 h2
  have h3 := okW_inj _ _ (tightJ v) (tightJ w) (words_ok v 1 hv [] (.inl rfl)) (words_ok w 1 hw [] (.inl rfl)) (by rw [h1, h2, e])
  have g1 := val_tail hv (tokW 0 (wordsJ v)) [] (tokW_st _ _)
  have g2 := val_tail hw (tokW 0 (wordsJ v)) [] ((tokW_st _ _).trans h3)
  rw [g1] at g2
  simp only [Except.ok.injEq, Prod.mk.injEq] at g2
  exact g2.1
theorem print_ne (v : Json) (h : rightJ v 1 = true) : printJ v ≠ [] := by
  intro e
  have h1 := lay_words v []
  rw [List.append_nil, e] at h1
  have hok := words_ok v 1 h [] (.inl rfl)
  have hv := val_tail h (tokW 0 (wordsJ v)) [] (tokW_st _ _)
  cases hw : wordsJ v with
  | nil => rw [hw] at hv; cases hv
  | cons x l =>
    rw [hw] at h1 hok
    obtain ⟨_, ⟨c, u, hc, _⟩, _⟩ := hok
    simp [layW, hc] at h1
end Go.Proofs.YtmlkkgfenfdndaaGreatDoor
/-
  Functions of the program as pure Lean functions, and the ties; printed by wip/tools/emit.py.
-/
set_option maxRecDepth 100000
namespace Go.Proofs.YtmlkkgfenfdndaaGreatDoor
open Go Go.Yard
/-! ### humpyard/json.write -/
abbrev q58_ty (R : Type) : Type := Json → ((List Int) → Option R) → Option R
abbrev q58_p : List Pat := [.leaf (.ptr 0 0), .agg [.int .i64, .int .i64, .int .i64, .str, .sl .str, .sl .json]]
abbrev q58_q : List HPat := [.bld (.nilsl)]
noncomputable def q58_rr {R : Type} (fn : q58_ty R) : Pat.dens q58_p → HPat.dens q58_q → (V → Heap → Option R) → Option R := fun x y k => fn (⟨x.2.1.1, ⟨x.2.1.2.1, x.2.1.2.2.1⟩, x.2.1.2.2.2.1, x.2.1.2.2.2.2.1, x.2.1.2.2.2.2.2.1⟩ : Json) (fun q0 => k (.tuple []) [.bld (.sl (.int .u8) q0 (.own 1)), .tok])
abbrev q58_18_0_ty (R : Type) : Type := Nat → Str → (List Json) → Int → Int → (List Int) → Json → (Str → (List Int) → Option R) → Option R
noncomputable def q58_E (R : Type) (q64 : q64_ty R) (q26 : q26_ty R) (q25 : q25_ty R) (q20 : q20_ty R) (q59 : q59_ty R) (q57 : q57_ty R) (q56 : q56_ty R) : Env R := fun i => match i with
  | 46 => some (true, (specBy q64_p q64_q (q64_rr q64) specNo))
  | 50 => some (false, (specBy q25_p q25_q (q25_rr q25) (specBy q26_p q26_q (q26_rr q26) specNo)))
  | 52 => some (false, (specBy q20_p q20_q (q20_rr q20) specNo))
  | 38 => some (false, (specBy q59_p q59_q (q59_rr q59) specNo))
  | 61 => some (false, (specBy q56_p q56_q (q56_rr q56) (specBy q57_p q57_q (q57_rr q57) specNo)))
  | _ => none
theorem q58_EOk (R : Type) : EOk Tryz.prog (q58_E R q64 q26 q25 q20 q59 q57 q56) := by
  intro i b sp h
  unfold q58_E at h
  split at h
  · cases h; exact ⟨(q64_S_ok R _ (specNo_ok _)), fun h => nomatch h⟩
  · cases h; exact ⟨(q25_S_ok R _ (q26_S_ok R _ (specNo_ok _))), fun _ h => nomatch h⟩
  · cases h; exact ⟨(q20_S_ok R _ (specNo_ok _)), fun _ h => nomatch h⟩
  · cases h; exact ⟨(q59_S_ok R _ (specNo_ok _)), fun _ h => nomatch h⟩
  · cases h; exact ⟨(q56_S_ok R _ (q57_S_ok R _ (specNo_ok _))), fun _ h => nomatch h⟩
  · cases h
noncomputable def q58_18_0_B {R : Type} (q25 : q25_ty R) (q59 : q59_ty R) (q56 : q56_ty R) (rec' : Str → (List Json) → Int → Int → (List Int) → Json → Option R) (x14 : Str) (x15 : List Json) (x16 : Int) (x17 : Int) (x18 : List Int) (x19 : Json) (e0 : Str → (List Int) → Option R) : Option R :=
  bif (decide (x17 < x16)) then (chk (decide ((0 : Int) ≤ x17) && decide (x17 < x15.length)) (bif (decide (x17 > (0 : Int))) then (q25 44 x18 (fun y20 => bif (x19.kind == 7) then (chk (decide ((0 : Int) ≤ x17) && decide (x17 < x19.names.length)) (q56 (x19.names.getD x17.toNat (Ty.dflt .str)) y20 (fun y21 => q25 58 y21 (fun y22 => q59 (⟨(x15.getD x17.toNat (Ty.dflt .json)).kind, ⟨(x15.getD x17.toNat (Ty.dflt .json)).num.mant, (x15.getD x17.toNat (Ty.dflt .json)).num.exp⟩, (x15.getD x17.toNat (Ty.dflt .json)).text, (x15.getD x17.toNat (Ty.dflt .json)).names, (x15.getD x17.toNat (Ty.dflt .json)).items⟩ : Json) y22 (fun y23 => rec' x14 x15 x16 (IntKind.i64.wrap (x17 + 1)) y23 (⟨x19.kind, ⟨x19.num.mant, x19.num.exp⟩, x19.text, x19.names, x19.items⟩ : Json)))))) else (q59 (⟨(x15.getD x17.toNat (Ty.dflt .json)).kind, ⟨(x15.getD x17.toNat (Ty.dflt .json)).num.mant, (x15.getD x17.toNat (Ty.dflt .json)).num.exp⟩, (x15.getD x17.toNat (Ty.dflt .json)).text, (x15.getD x17.toNat (Ty.dflt .json)).names, (x15.getD x17.toNat (Ty.dflt .json)).items⟩ : Json) y20 (fun y24 => rec' x14 x15 x16 (IntKind.i64.wrap (x17 + 1)) y24 (⟨x19.kind, ⟨x19.num.mant, x19.num.exp⟩, x19.text, x19.names, x19.items⟩ : Json))))) else (bif (x19.kind == 7) then (chk (decide ((0 : Int) ≤ x17) && decide (x17 < x19.names.length)) (q56 (x19.names.getD x17.toNat (Ty.dflt .str)) x18 (fun y25 => q25 58 y25 (fun y26 => q59 (⟨(x15.getD x17.toNat (Ty.dflt .json)).kind, ⟨(x15.getD x17.toNat (Ty.dflt .json)).num.mant, (x15.getD x17.toNat (Ty.dflt .json)).num.exp⟩, (x15.getD x17.toNat (Ty.dflt .json)).text, (x15.getD x17.toNat (Ty.dflt .json)).names, (x15.getD x17.toNat (Ty.dflt .json)).items⟩ : Json) y26 (fun y27 => rec' x14 x15 x16 (IntKind.i64.wrap (x17 + 1)) y27 (⟨x19.kind, ⟨x19.num.mant, x19.num.exp⟩, x19.text, x19.names, x19.items⟩ : Json)))))) else (q59 (⟨(x15.getD x17.toNat (Ty.dflt .json)).kind, ⟨(x15.getD x17.toNat (Ty.dflt .json)).num.mant, (x15.getD x17.toNat (Ty.dflt .json)).num.exp⟩, (x15.getD x17.toNat (Ty.dflt .json)).text, (x15.getD x17.toNat (Ty.dflt .json)).names, (x15.getD x17.toNat (Ty.dflt .json)).items⟩ : Json) x18 (fun y28 => rec' x14 x15 x16 (IntKind.i64.wrap (x17 + 1)) y28 (⟨x19.kind, ⟨x19.num.mant, x19.num.exp⟩, x19.text, x19.names, x19.items⟩ : Json)))))) else (e0 x14 x18)
noncomputable def q58_18_0_L {R : Type} : q58_18_0_ty R
  | 0, _, _, _, _, _, _, _ => none
  | n + 1, x0', x1', x2', x3', x4', x5', e0 => q58_18_0_B q25 q59 q56 (fun x0' x1' x2' x3' x4' x5' => q58_18_0_L n x0' x1' x2' x3' x4' x5' e0) x0' x1' x2' x3' x4' x5' e0
noncomputable def q58_18_0_h : Hint := { live := [2, 3, 4, 5, 43, 44, 45], own := [], rows := [], cells := [], drop := [], out := [2, 5] }
abbrev q58_18_0_D : Type := Str × (List Json) × Int × Int × (List Int) × Json
noncomputable def q58_18_0_enc : q58_18_0_D → St := fun d => ⟨[.undef, .undef, .ptr 1 0, .ptr 2 0, .func 61 [] [.ptr 1 0], .str d.1, .undef, .undef, .undef, .undef, .undef, .undef, .undef, .undef, .undef, .undef, .undef, .undef, .undef, .undef, .undef, .undef, .undef, .undef, .undef, .undef, .undef, .undef, .undef, .undef, .undef, .undef, .undef, .undef, .undef, .undef, .undef, .undef, .undef, .undef, .undef, .undef, .undef, .sl .json d.2.1 .no, .int .i64 d.2.2.1, .int .i64 d.2.2.2.1, .undef, .undef, .undef, .undef, .undef, .undef, .undef, .undef, .undef, .undef, .undef, .undef, .undef, .undef, .undef, .undef, .undef, .undef, .undef, .undef, .undef, .undef, .undef, .undef, .undef, .undef, .undef, .undef], [.bld (.sl (.int .u8) d.2.2.2.2.1 (.own 3)), .cells [.ptr 0 0], .cells [.int .i64 d.2.2.2.2.2.kind, .int .i64 d.2.2.2.2.2.num.mant, .int .i64 d.2.2.2.2.2.num.exp, .str d.2.2.2.2.2.text, .sl .str d.2.2.2.2.2.names .no, .sl .json d.2.2.2.2.2.items .no], .tok]⟩
noncomputable def q58_18_0_x0 {R : Type} (K : Ex → St → Option R) (q0 : Str) (q1 : List Int) : Option R := K (.exit 1) ⟨[.undef, .undef, .ptr 1 0, .undef, .undef, .str q0, .undef, .undef, .undef, .undef, .undef, .undef, .undef, .undef, .undef, .undef, .undef, .undef, .undef, .undef, .undef, .undef, .undef, .undef, .undef, .undef, .undef, .undef, .undef, .undef, .undef, .undef, .undef, .undef, .undef, .undef, .undef, .undef, .undef, .undef, .undef, .undef, .undef, .undef, .undef, .undef, .undef, .undef, .undef, .undef, .undef, .undef, .undef, .undef, .undef, .undef, .undef, .undef, .undef, .undef, .undef, .undef, .undef, .undef, .undef, .undef, .undef, .undef, .undef, .undef, .undef, .undef, .undef, .undef], [.bld (.sl (.int .u8) q1 (.own 2)), .cells [.ptr 0 0], .tok]⟩
noncomputable def q58_18_0_s {R : Type} (q25 : q25_ty R) (q59 : q59_ty R) (q56 : q56_ty R) (K : Ex → St → Option R) (rc : q58_18_0_D → Option R) (d : q58_18_0_D) : Option R := q58_18_0_B q25 q59 q56 (fun z0 z1 z2 z3 z4 z5 => rc (z0, z1, z2, z3, z4, z5)) d.1 d.2.1 d.2.2.1 d.2.2.2.1 d.2.2.2.2.1 d.2.2.2.2.2 (q58_18_0_x0 K)
noncomputable def q58_18_0_A {R : Type} (K : Ex → St → Option R) (n : Nat) (d : q58_18_0_D) : Option R := q58_18_0_L n d.1 d.2.1 d.2.2.1 d.2.2.2.1 d.2.2.2.2.1 d.2.2.2.2.2 (q58_18_0_x0 K)
abbrev q58_18_0_p : List Pat := [.leaf (.undef), .leaf (.undef), .leaf (.ptr 1 0), .leaf (.ptr 2 0), .func 61 [] [.ptr 1 0], .leaf (.str), .leaf (.undef), .leaf (.undef), .leaf (.undef), .leaf (.undef), .leaf (.undef), .leaf (.undef), .leaf (.undef), .leaf (.undef), .leaf (.undef), .leaf (.undef), .leaf (.undef), .leaf (.undef), .leaf (.undef), .leaf (.undef), .leaf (.undef), .leaf (.undef), .leaf (.undef), .leaf (.undef), .leaf (.undef), .leaf (.undef), .leaf (.undef), .leaf (.undef), .leaf (.undef), .leaf (.undef), .leaf (.undef), .leaf (.undef), .leaf (.undef), .leaf (.undef), .leaf (.undef), .leaf (.undef), .leaf (.undef), .leaf (.undef), .leaf (.undef), .leaf (.undef), .leaf (.undef), .leaf (.undef), .leaf (.undef), .leaf (.sl .json), .leaf (.int .i64), .leaf (.int .i64), .leaf (.undef), .leaf (.undef), .leaf (.undef), .leaf (.undef), .leaf (.undef), .leaf (.undef), .leaf (.undef), .leaf (.undef), .leaf (.undef), .leaf (.undef), .leaf (.undef), .leaf (.undef), .leaf (.undef), .leaf (.undef), .leaf (.undef), .leaf (.undef), .leaf (.undef), .leaf (.undef), .leaf (.undef), .leaf (.undef), .leaf (.undef), .leaf (.undef), .leaf (.undef), .leaf (.undef), .leaf (.undef), .leaf (.undef), .leaf (.undef), .leaf (.undef)]
abbrev q58_18_0_q : List HPat := [.bld (.slo (.int .u8) 3), .cells [.ptr 0 0], .cells [.int .i64, .int .i64, .int .i64, .str, .sl .str, .sl .json], .tok]
noncomputable def q58_18_0_f (x : Pat.dens q58_18_0_p) (y : HPat.dens q58_18_0_q) : Nat := (List.length x.2.2.2.2.2.1 + List.length x.2.2.2.2.2.2.2.2.2.2.2.2.2.2.2.2.2.2.2.2.2.2.2.2.2.2.2.2.2.2.2.2.2.2.2.2.2.2.2.2.2.2.2.1 + Int.natAbs x.2.2.2.2.2.2.2.2.2.2.2.2.2.2.2.2.2.2.2.2.2.2.2.2.2.2.2.2.2.2.2.2.2.2.2.2.2.2.2.2.2.2.2.2.1 + Int.natAbs x.2.2.2.2.2.2.2.2.2.2.2.2.2.2.2.2.2.2.2.2.2.2.2.2.2.2.2.2.2.2.2.2.2.2.2.2.2.2.2.2.2.2.2.2.2.1 + List.length y.1 + Json.fu (⟨y.2.2.1.1, ⟨y.2.2.1.2.1, y.2.2.1.2.2.1⟩, y.2.2.1.2.2.2.1, y.2.2.1.2.2.2.2.1, y.2.2.1.2.2.2.2.2.1⟩ : Json) + 64)
noncomputable def q58_18_0_d (x : Pat.dens q58_18_0_p) (y : HPat.dens q58_18_0_q) : q58_18_0_D := (x.2.2.2.2.2.1, x.2.2.2.2.2.2.2.2.2.2.2.2.2.2.2.2.2.2.2.2.2.2.2.2.2.2.2.2.2.2.2.2.2.2.2.2.2.2.2.2.2.2.2.1, x.2.2.2.2.2.2.2.2.2.2.2.2.2.2.2.2.2.2.2.2.2.2.2.2.2.2.2.2.2.2.2.2.2.2.2.2.2.2.2.2.2.2.2.2.1, x.2.2.2.2.2.2.2.2.2.2.2.2.2.2.2.2.2.2.2.2.2.2.2.2.2.2.2.2.2.2.2.2.2.2.2.2.2.2.2.2.2.2.2.2.2.1, y.1, (⟨y.2.2.1.1, ⟨y.2.2.1.2.1, y.2.2.1.2.2.1⟩, y.2.2.1.2.2.2.1, y.2.2.1.2.2.2.2.1, y.2.2.1.2.2.2.2.2.1⟩ : Json))
noncomputable def q58_18_0_rr {R : Type} (L : q58_18_0_ty R) : Pat.dens q58_18_0_p → HPat.dens q58_18_0_q → (Ex → St → Option R) → Option R := fun x y K => L (q58_18_0_f x y) x.2.2.2.2.2.1 x.2.2.2.2.2.2.2.2.2.2.2.2.2.2.2.2.2.2.2.2.2.2.2.2.2.2.2.2.2.2.2.2.2.2.2.2.2.2.2.2.2.2.2.1 x.2.2.2.2.2.2.2.2.2.2.2.2.2.2.2.2.2.2.2.2.2.2.2.2.2.2.2.2.2.2.2.2.2.2.2.2.2.2.2.2.2.2.2.2.1 x.2.2.2.2.2.2.2.2.2.2.2.2.2.2.2.2.2.2.2.2.2.2.2.2.2.2.2.2.2.2.2.2.2.2.2.2.2.2.2.2.2.2.2.2.2.1 y.1 (⟨y.2.2.1.1, ⟨y.2.2.1.2.1, y.2.2.1.2.2.1⟩, y.2.2.1.2.2.2.1, y.2.2.1.2.2.2.2.1, y.2.2.1.2.2.2.2.2.1⟩ : Json) (q58_18_0_x0 K)
noncomputable def q58_T (R : Type) (q58_18_0_L : q58_18_0_ty R) : Nat → Option (Hint × LSpec R) := fun i => match i with
  | 18 => some (q58_18_0_h, (loopBy q58_18_0_p q58_18_0_q (q58_18_0_rr q58_18_0_L) loopNo))
  | _ => none
theorem q58_18_0_B_ok {R : Type} (q64 : q64_ty R) (q26 : q26_ty R) (q25 : q25_ty R) (q20 : q20_ty R) (q59 : q59_ty R) (q57 : q57_ty R) (q56 : q56_ty R) (q58_18_0_L : q58_18_0_ty R) (K : Ex → St → Option R) (rc : St → Option R) (d : q58_18_0_D) : roundOf tt (q58_E R q64 q26 q25 q20 q59 q57 q56) (q58_T R q58_18_0_L) 1 ((loopsOf (codeOf Tryz.f38)).getD 0 .skip) q58_18_0_h (q58_18_0_enc d) rc K = q58_18_0_s q25 q59 q56 K (fun d => rc (q58_18_0_enc d)) d := by kernel_rfl
theorem q58_18_0_A_succ {R : Type} (K : Ex → St → Option R) (n : Nat) (d : q58_18_0_D) : q58_18_0_A K (n + 1) d = q58_18_0_s q25 q59 q56 K (q58_18_0_A K n) d := by kernel_rfl
theorem q58_18_0_A_zero {R : Type} (K : Ex → St → Option R) (d : q58_18_0_D) : q58_18_0_A K 0 d = none := by kernel_rfl
theorem q58_18_0_e_ok (x : Pat.dens q58_18_0_p) (y : HPat.dens q58_18_0_q) : (⟨Pat.encL q58_18_0_p x, HPat.encL q58_18_0_q y⟩ : St) = q58_18_0_enc (q58_18_0_d x y) := by kernel_rfl
theorem q58_18_0_r_ok {R : Type} (x : Pat.dens q58_18_0_p) (y : HPat.dens q58_18_0_q) (K : Ex → St → Option R) : q58_18_0_rr (q58_18_0_L) x y K = q58_18_0_A K (q58_18_0_f x y) (q58_18_0_d x y) := by kernel_rfl
theorem q58_18_0_ok {R : Type} (other : LSpec R) (ho : LsOk tt (q58_E R q64 q26 q25 q20 q59 q57 q56) (q58_T R q58_18_0_L) 1 ((loopsOf (codeOf Tryz.f38)).getD 0 .skip) q58_18_0_h other) : LsOk tt (q58_E R q64 q26 q25 q20 q59 q57 q56) (q58_T R q58_18_0_L) 1 ((loopsOf (codeOf Tryz.f38)).getD 0 .skip) q58_18_0_h (loopBy q58_18_0_p q58_18_0_q (q58_18_0_rr (q58_18_0_L)) other) :=
  loopBy_tie (A := q58_18_0_A) ho (loop_tie q58_18_0_enc (q58_18_0_s q25 q59 q56) (q58_18_0_A) (q58_18_0_A_zero) (q58_18_0_B_ok q64 q26 q25 q20 q59 q57 q56 q58_18_0_L) (q58_18_0_A_succ)) q58_18_0_f q58_18_0_d q58_18_0_e_ok (q58_18_0_r_ok)
noncomputable def q58_X {R : Type} (q64 : q64_ty R) (q26 : q26_ty R) (q25 : q25_ty R) (q20 : q20_ty R) (q57 : q57_ty R) (q58_18_0_L : q58_18_0_ty R) (x1 : Json) (k0 : (List Int) → Option R) : Option R :=
  let j32 := fun (z12 : Str) => chk (decide ((0 : Int) < z12.length)) (q26 ((z12.getD 0 0).toNat : Int) (fun y13 => q58_18_0_L (List.length z12 + List.length x1.items + Int.natAbs (x1.items.length : Int) + Int.natAbs 0 + List.length y13 + Json.fu (⟨x1.kind, ⟨x1.num.mant, x1.num.exp⟩, x1.text, x1.names, x1.items⟩ : Json) + 64) z12 x1.items (x1.items.length : Int) 0 y13 (⟨x1.kind, ⟨x1.num.mant, x1.num.exp⟩, x1.text, x1.names, x1.items⟩ : Json) (fun y29 y30 => chk (decide ((1 : Int) < y29.length)) (q25 ((y29.getD 1 0).toNat : Int) y30 (fun y31 => k0 y31))))); bif (x1.kind == 1) then (q20 ([110, 117, 108, 108] : Str) (fun y2 y3 => k0 y3)) else (bif (x1.kind == 2) then (q20 ([102, 97, 108, 115, 101] : Str) (fun y4 y5 => k0 y5)) else (bif (x1.kind == 3) then (q20 ([116, 114, 117, 101] : Str) (fun y6 y7 => k0 y7)) else (bif (x1.kind == 4) then (q64 x1.num (fun y8 => q20 y8 (fun y9 y10 => k0 y10))) else (bif (x1.kind == 5) then (q57 x1.text (fun y11 => k0 y11)) else (bif (x1.kind == 7) then (j32 ([123, 125] : Str)) else (j32 ([91, 93] : Str)))))))
noncomputable def q58 {R : Type} : q58_ty R := fun x1 k0 => q58_X q64 q26 q25 q20 q57 q58_18_0_L x1 k0
theorem q58_ok {R : Type} (q64 : q64_ty R) (q26 : q26_ty R) (q25 : q25_ty R) (q20 : q20_ty R) (q59 : q59_ty R) (q57 : q57_ty R) (q56 : q56_ty R) (q58_18_0_L : q58_18_0_ty R) (x1 : Json) (k : V → Heap → Option R) : funK tt (q58_E R q64 q26 q25 q20 q59 q57 q56) (q58_T R q58_18_0_L) false Tryz.f38 (codeOf Tryz.f38) [.ptr 0 0, .agg [.int .i64 x1.kind, .int .i64 x1.num.mant, .int .i64 x1.num.exp, .str x1.text, .sl .str x1.names .no, .sl .json x1.items .no]] [.bld (.nilsl)] k =
    q58_X q64 q26 q25 q20 q57 q58_18_0_L x1 (fun q0 => k (.tuple []) [.bld (.sl (.int .u8) q0 (.own 1)), .tok]) := by kernel_rfl
theorem q58_loops (R : Type) : ∀ a ∈ loopsOf (codeOf Tryz.f38), LoopOk tt (q58_E R q64 q26 q25 q20 q59 q57 q56) (q58_T R q58_18_0_L) 1 a := by
  refine loops_ok 1 (by kernel_rfl) fun i hi => ?_
  match i, hi with
  | 0, _ => exact loopOk_some (by kernel_rfl) (q58_18_0_ok _ loopNo_ok)
  | n + 1, hi => omega
theorem q58_S_ok (R : Type) (other : Yard.Spec R) (ho : Yard.Spec.Ok Tryz.prog 38 other) : Yard.Spec.Ok Tryz.prog 38 (specBy q58_p q58_q (q58_rr q58) other) :=
  specBy_ok ho (funK_sound TT mixed (q58_EOk R) (keep := false) rfl rfl rfl rfl 1 (q58_loops R)) fun (x : Pat.dens q58_p) (y : HPat.dens q58_q) k => q58_ok q64 q26 q25 q20 q59 q57 q56 q58_18_0_L (⟨x.2.1.1, ⟨x.2.1.2.1, x.2.1.2.2.1⟩, x.2.1.2.2.2.1, x.2.1.2.2.2.2.1, x.2.1.2.2.2.2.2.1⟩ : Json) k
/-! ### humpyard/json.Print -/
abbrev q77_ty (R : Type) : Type := Json → (Str → Option R) → Option R
abbrev q77_p : List Pat := [.agg [.int .i64, .int .i64, .int .i64, .str, .sl .str, .sl .json]]
abbrev q77_q : List HPat := []
noncomputable def q77_rr {R : Type} (fn : q77_ty R) : Pat.dens q77_p → HPat.dens q77_q → (V → Heap → Option R) → Option R := fun x y k => fn (⟨x.1.1, ⟨x.1.2.1, x.1.2.2.1⟩, x.1.2.2.2.1, x.1.2.2.2.2.1, x.1.2.2.2.2.2.1⟩ : Json) (fun q0 => k (.str q0) [])
noncomputable def q77_E (R : Type) (q83 : q83_ty R) (q58 : q58_ty R) : Env R := fun i => match i with
  | 39 => some (false, (bstr_S R))
  | 32 => some (true, (specBy q83_p q83_q (q83_rr q83) specNo))
  | 38 => some (false, (specBy q58_p q58_q (q58_rr q58) specNo))
  | _ => none
theorem q77_EOk (R : Type) : EOk Tryz.prog (q77_E R q83 q58) := by
  intro i b sp h
  unfold q77_E at h
  split at h
  · cases h; exact ⟨(bstr_is), fun _ _ => bstr_soft⟩
  · cases h; exact ⟨(q83_S_ok R _ (specNo_ok _)), fun h => nomatch h⟩
  · cases h; exact ⟨(q58_S_ok R _ (specNo_ok _)), fun _ h => nomatch h⟩
  · cases h
noncomputable def q77_T (R : Type) : Nat → Option (Hint × LSpec R) := fun i => match i with
  | _ => none
noncomputable def q77_X {R : Type} (q83 : q83_ty R) (q58 : q58_ty R) (x1 : Json) (k0 : Str → Option R) : Option R :=
  q83 (⟨x1.kind, ⟨x1.num.mant, x1.num.exp⟩, x1.text, x1.names, x1.items⟩ : Json) (fun y2 => bif (!y2) then (k0 ([] : Str)) else (q58 (⟨x1.kind, ⟨x1.num.mant, x1.num.exp⟩, x1.text, x1.names, x1.items⟩ : Json) (fun y3 => k0 (bstr y3))))
noncomputable def q77 {R : Type} : q77_ty R := fun x1 k0 => q77_X q83 q58 x1 k0
theorem q77_ok {R : Type} (q83 : q83_ty R) (q58 : q58_ty R) (x1 : Json) (k : V → Heap → Option R) : funK tt (q77_E R q83 q58) (q77_T R) false Tryz.f17 (codeOf Tryz.f17) [.agg [.int .i64 x1.kind, .int .i64 x1.num.mant, .int .i64 x1.num.exp, .str x1.text, .sl .str x1.names .no, .sl .json x1.items .no]] [] k =
    q77_X q83 q58 x1 (fun q0 => k (.str q0) []) := by kernel_rfl
theorem q77_loops (R : Type) : ∀ a ∈ loopsOf (codeOf Tryz.f17), LoopOk tt (q77_E R q83 q58) (q77_T R) 0 a := by
  refine loops_ok 0 (by kernel_rfl) fun i hi => ?_
  omega
theorem q77_S_ok (R : Type) (other : Yard.Spec R) (ho : Yard.Spec.Ok Tryz.prog 17 other) : Yard.Spec.Ok Tryz.prog 17 (specBy q77_p q77_q (q77_rr q77) other) :=
  specBy_ok ho (funK_sound TT mixed (q77_EOk R) (keep := false) rfl rfl rfl rfl 0 (q77_loops R)) fun (x : Pat.dens q77_p) (y : HPat.dens q77_q) k => q77_ok q83 q58 (⟨x.1.1, ⟨x.1.2.1, x.1.2.2.1⟩, x.1.2.2.2.1, x.1.2.2.2.2.1, x.1.2.2.2.2.2.1⟩ : Json) k
/-! ### slices.Equal[[]string,string] -/
abbrev q36_ty (R : Type) : Type := (List Str) → (List Str) → (Bool → Option R) → Option R
abbrev q36_p : List Pat := [.leaf (.sl .str), .leaf (.sl .str)]
abbrev q36_q : List HPat := []
noncomputable def q36_rr {R : Type} (fn : q36_ty R) : Pat.dens q36_p → HPat.dens q36_q → (V → Heap → Option R) → Option R := fun x y k => fn x.1 x.2.1 (fun q0 => k (.bool q0) [])
abbrev q36_4_0_ty (R : Type) : Type := Nat → (List Str) → (List Str) → Int → Int → (Option R) → (Bool → Option R) → Option R
noncomputable def q36_E (R : Type) : Env R := fun i => match i with
  | _ => none
theorem q36_EOk (R : Type) : EOk Tryz.prog (q36_E R) := by
  intro i b sp h
  unfold q36_E at h
  split at h
  · cases h
noncomputable def q36_4_0_B {R : Type} (rec' : (List Str) → (List Str) → Int → Int → Option R) (x3 : List Str) (x4 : List Str) (x5 : Int) (x6 : Int) (e0 : Option R) (e1 : Bool → Option R) : Option R :=
  bif (decide (x6 < x5)) then (chk (decide ((0 : Int) ≤ x6) && decide (x6 < x3.length)) (chk (decide ((0 : Int) ≤ x6) && decide (x6 < x4.length)) (bif (!((x3.getD x6.toNat (Ty.dflt .str)) == (x4.getD x6.toNat (Ty.dflt .str)))) then (e1 false) else (rec' x3 x4 x5 (IntKind.i64.wrap (x6 + 1)))))) else (e0)
noncomputable def q36_4_0_L {R : Type} : q36_4_0_ty R
  | 0, _, _, _, _, _, _ => none
  | n + 1, x0', x1', x2', x3', e0, e1 => q36_4_0_B (fun x0' x1' x2' x3' => q36_4_0_L n x0' x1' x2' x3' e0 e1) x0' x1' x2' x3' e0 e1
noncomputable def q36_4_0_h : Hint := { live := [0, 1, 12, 13], own := [], rows := [], cells := [], drop := [], out := [4] }
abbrev q36_4_0_D : Type := (List Str) × (List Str) × Int × Int
noncomputable def q36_4_0_enc : q36_4_0_D → St := fun d => ⟨[.sl .str d.1 .no, .sl .str d.2.1 .no, .undef, .undef, .undef, .undef, .undef, .undef, .undef, .undef, .undef, .undef, .int .i64 d.2.2.1, .int .i64 d.2.2.2, .undef, .undef, .undef, .undef, .undef, .undef, .undef, .undef, .undef, .undef, .undef, .undef], []⟩
noncomputable def q36_4_0_x0 {R : Type} (K : Ex → St → Option R) : Option R := K (.exit 0) ⟨[.undef, .undef, .undef, .undef, .undef, .undef, .undef, .undef, .undef, .undef, .undef, .undef, .undef, .undef, .undef, .undef, .undef, .undef, .undef, .undef, .undef, .undef, .undef, .undef, .undef, .undef], []⟩
noncomputable def q36_4_0_x1 {R : Type} (K : Ex → St → Option R) (q0 : Bool) : Option R := K (.ret) ⟨[.undef, .undef, .undef, .undef, .bool q0, .undef, .undef, .undef, .undef, .undef, .undef, .undef, .undef, .undef, .undef, .undef, .undef, .undef, .undef, .undef, .undef, .undef, .undef, .undef, .undef, .undef], []⟩
noncomputable def q36_4_0_s {R : Type} (K : Ex → St → Option R) (rc : q36_4_0_D → Option R) (d : q36_4_0_D) : Option R := q36_4_0_B (fun z0 z1 z2 z3 => rc (z0, z1, z2, z3)) d.1 d.2.1 d.2.2.1 d.2.2.2 (q36_4_0_x0 K) (q36_4_0_x1 K)
noncomputable def q36_4_0_A {R : Type} (K : Ex → St → Option R) (n : Nat) (d : q36_4_0_D) : Option R := q36_4_0_L n d.1 d.2.1 d.2.2.1 d.2.2.2 (q36_4_0_x0 K) (q36_4_0_x1 K)
abbrev q36_4_0_p : List Pat := [.leaf (.sl .str), .leaf (.sl .str), .leaf (.undef), .leaf (.undef), .leaf (.undef), .leaf (.undef), .leaf (.undef), .leaf (.undef), .leaf (.undef), .leaf (.undef), .leaf (.undef), .leaf (.undef), .leaf (.int .i64), .leaf (.int .i64), .leaf (.undef), .leaf (.undef), .leaf (.undef), .leaf (.undef), .leaf (.undef), .leaf (.undef), .leaf (.undef), .leaf (.undef), .leaf (.undef), .leaf (.undef), .leaf (.undef), .leaf (.undef)]
abbrev q36_4_0_q : List HPat := []
noncomputable def q36_4_0_f (x : Pat.dens q36_4_0_p) (y : HPat.dens q36_4_0_q) : Nat := (List.length x.1 + List.length x.2.1 + Int.natAbs x.2.2.2.2.2.2.2.2.2.2.2.2.1 + Int.natAbs x.2.2.2.2.2.2.2.2.2.2.2.2.2.1 + 64)
noncomputable def q36_4_0_d (x : Pat.dens q36_4_0_p) (y : HPat.dens q36_4_0_q) : q36_4_0_D := (x.1, x.2.1, x.2.2.2.2.2.2.2.2.2.2.2.2.1, x.2.2.2.2.2.2.2.2.2.2.2.2.2.1)
noncomputable def q36_4_0_rr {R : Type} (L : q36_4_0_ty R) : Pat.dens q36_4_0_p → HPat.dens q36_4_0_q → (Ex → St → Option R) → Option R := fun x y K => L (q36_4_0_f x y) x.1 x.2.1 x.2.2.2.2.2.2.2.2.2.2.2.2.1 x.2.2.2.2.2.2.2.2.2.2.2.2.2.1 (q36_4_0_x0 K) (q36_4_0_x1 K)
noncomputable def q36_T (R : Type) (q36_4_0_L : q36_4_0_ty R) : Nat → Option (Hint × LSpec R) := fun i => match i with
  | 4 => some (q36_4_0_h, (loopBy q36_4_0_p q36_4_0_q (q36_4_0_rr q36_4_0_L) loopNo))
  | _ => none
theorem q36_4_0_B_ok {R : Type} (q36_4_0_L : q36_4_0_ty R) (K : Ex → St → Option R) (rc : St → Option R) (d : q36_4_0_D) : roundOf tt (q36_E R) (q36_T R q36_4_0_L) 0 ((loopsOf (codeOf Tryz.f44)).getD 0 .skip) q36_4_0_h (q36_4_0_enc d) rc K = q36_4_0_s K (fun d => rc (q36_4_0_enc d)) d := by kernel_rfl
theorem q36_4_0_A_succ {R : Type} (K : Ex → St → Option R) (n : Nat) (d : q36_4_0_D) : q36_4_0_A K (n + 1) d = q36_4_0_s K (q36_4_0_A K n) d := by kernel_rfl
theorem q36_4_0_A_zero {R : Type} (K : Ex → St → Option R) (d : q36_4_0_D) : q36_4_0_A K 0 d = none := by kernel_rfl
theorem q36_4_0_e_ok (x : Pat.dens q36_4_0_p) (y : HPat.dens q36_4_0_q) : (⟨Pat.encL q36_4_0_p x, HPat.encL q36_4_0_q y⟩ : St) = q36_4_0_enc (q36_4_0_d x y) := by kernel_rfl
theorem q36_4_0_r_ok {R : Type} (x : Pat.dens q36_4_0_p) (y : HPat.dens q36_4_0_q) (K : Ex → St → Option R) : q36_4_0_rr (q36_4_0_L) x y K = q36_4_0_A K (q36_4_0_f x y) (q36_4_0_d x y) := by kernel_rfl
theorem q36_4_0_ok {R : Type} (other : LSpec R) (ho : LsOk tt (q36_E R) (q36_T R q36_4_0_L) 0 ((loopsOf (codeOf Tryz.f44)).getD 0 .skip) q36_4_0_h other) : LsOk tt (q36_E R) (q36_T R q36_4_0_L) 0 ((loopsOf (codeOf Tryz.f44)).getD 0 .skip) q36_4_0_h (loopBy q36_4_0_p q36_4_0_q (q36_4_0_rr (q36_4_0_L)) other) :=
  loopBy_tie (A := q36_4_0_A) ho (loop_tie q36_4_0_enc (q36_4_0_s) (q36_4_0_A) (q36_4_0_A_zero) (q36_4_0_B_ok q36_4_0_L) (q36_4_0_A_succ)) q36_4_0_f q36_4_0_d q36_4_0_e_ok (q36_4_0_r_ok)
noncomputable def q36_X {R : Type} (q36_4_0_L : q36_4_0_ty R) (x1 : List Str) (x2 : List Str) (k0 : Bool → Option R) : Option R :=
  bif ((x1.length : Int) != (x2.length : Int)) then (k0 false) else (q36_4_0_L (List.length x1 + List.length x2 + Int.natAbs (x1.length : Int) + Int.natAbs 0 + 64) x1 x2 (x1.length : Int) 0 (k0 true) (fun y7 => k0 y7))
noncomputable def q36 {R : Type} : q36_ty R := fun x1 x2 k0 => q36_X q36_4_0_L x1 x2 k0
theorem q36_ok {R : Type} (q36_4_0_L : q36_4_0_ty R) (x1 : List Str) (x2 : List Str) (k : V → Heap → Option R) : funK tt (q36_E R) (q36_T R q36_4_0_L) false Tryz.f44 (codeOf Tryz.f44) [.sl .str x1 .no, .sl .str x2 .no] [] k =
    q36_X q36_4_0_L x1 x2 (fun q0 => k (.bool q0) []) := by kernel_rfl
theorem q36_loops (R : Type) : ∀ a ∈ loopsOf (codeOf Tryz.f44), LoopOk tt (q36_E R) (q36_T R q36_4_0_L) 0 a := by
  refine loops_ok 1 (by kernel_rfl) fun i hi => ?_
  match i, hi with
  | 0, _ => exact loopOk_some (by kernel_rfl) (q36_4_0_ok _ loopNo_ok)
  | n + 1, hi => omega
theorem q36_S_ok (R : Type) (other : Yard.Spec R) (ho : Yard.Spec.Ok Tryz.prog 44 other) : Yard.Spec.Ok Tryz.prog 44 (specBy q36_p q36_q (q36_rr q36) other) :=
  specBy_ok ho (funK_sound TT mixed (q36_EOk R) (keep := false) rfl rfl rfl rfl 0 (q36_loops R)) fun (x : Pat.dens q36_p) (y : HPat.dens q36_q) k => q36_ok q36_4_0_L x.1 x.2.1 k
end Go.Proofs.YtmlkkgfenfdndaaGreatDoor
set_option maxRecDepth 100000
namespace Go.Proofs.YtmlkkgfenfdndaaGreatDoor
open Go Go.Yard Go.Lib
theorem wq {R : Type} (t s : Str) (hv : validS t = true) (ht : t.length ≤ 10000000000) (hl : (s ++ qtS t).length ≤ 100000000000) (k : List Int → Option R) : q56 t (zs s) k = k (zs (s ++ qtS t)) := by
  obtain ⟨rs, hr, hc, rfl, _, hq⟩ | ⟨h, _⟩ := quote_any (R := R) t ht
  · have e : q56 (encL rs) (zs s) k = q70 (encL rs) (fun y3 y4 => q21 y3 (zs s) (fun y5 y6 => k y6)) := rfl
    rw [qtS_enc hr] at hl ⊢
    rw [List.length_append] at hl
    rw [e, hq]
    exact ws (qt rs) s (by omega) (by unfold Lim; omega) _
  · rw [hv] at h; cases h
def restP (v : Json) (i : Nat) : Str := if v.kind = 7 then printO (v.names.drop i) (v.items.drop i) (i == 0) else printL (v.items.drop i) (i == 0)
theorem write_loop {R : Type} (f : q59_ty R) (z : Str) (v : Json) (hl : v.items.length ≤ 1099511627776) (h7 : v.kind = 7 → v.names.length = v.items.length ∧ ∀ t ∈ v.names, validS t = true ∧ t.length ≤ 10000000000)
    (hf : ∀ x ∈ v.items, ∀ (s : Str) (k : List Int → Option R), (s ++ printJ x).length ≤ 100000000000 → f x (zs s) k = k (zs (s ++ printJ x))) (e0 : Str → List Int → Option R) : ∀ (F i : Nat) (s : Str), i ≤ v.items.length → v.items.length - i < F → (s ++ restP v i).length ≤ 100000000000 →
    q59_18_0_L f F z v.items (v.items.length : Int) (i : Int) (zs s) v e0 = e0 z (zs (s ++ restP v i)) := by
  intro F
  induction F with
  | zero => intro i s _ h; omega
  | succ F ih =>
    intro i s hi hF hb
    have eL : q59_18_0_L f (F + 1) z v.items (v.items.length : Int) (i : Int) (zs s) v e0 = q59_18_0_B q25 f q56 (fun x0' x1' x2' x3' x4' x5' => q59_18_0_L f F x0' x1' x2' x3' x4' x5' e0) z v.items (v.items.length : Int) (i : Int) (zs s) v e0 := rfl
    rw [eL]
    unfold q59_18_0_B
    simp only [Json.eta]
    by_cases h : i < v.items.length
    rotate_left
    · have h1 : decide ((i : Int) < (v.items.length : Int)) = false := by simp; omega
      rw [h1, cond_false]
      have hd : v.items.drop i = [] := List.drop_eq_nil_of_le (by omega)
      have : restP v i = [] := by
        unfold restP
        rw [hd]
        split
        · cases v.names.drop i <;> rfl
        · rfl
      rw [this, List.append_nil]
    have h1 : decide ((i : Int) < (v.items.length : Int)) = true := by simp; omega
    have h2 : (decide ((0 : Int) ≤ (i : Int)) && true) = true := by simp
    have hw : IntKind.i64.wrap ((i : Int) + 1) = ((i + 1 : Nat) : Int) := by rw [wrap_id (by omega) (by omega)]; omega
    have hg : v.items.getD (i : Int).toNat (Ty.dflt .json) = v.items[i] := getD_at h _
    have hr : restP v i = (if i = 0 then [] else [44]) ++ ((if v.kind = 7 then qtS (v.names.getD i []) ++ [58] else []) ++ (printJ v.items[i] ++ restP v (i + 1))) := by
      unfold restP
      rw [List.drop_eq_getElem_cons h]
      by_cases h7' : v.kind = 7
      · rw [if_pos h7', if_pos h7', if_pos h7']
        have hn := (h7 h7').1
        have hni : i < v.names.length := by omega
        rw [List.drop_eq_getElem_cons hni]
        simp only [printO, List.headD_cons, List.tail_cons]
        have : v.names.getD i [] = v.names[i] := getD_at hni _
        rw [this]
        by_cases h0 : i = 0
        · subst h0; simp
        · have e1 : (i == 0) = false := by simpa using h0
          have e2 : (i + 1 == 0) = false := rfl
          rw [e1, e2]
          simp [h0]
      · rw [if_neg h7', if_neg h7', if_neg h7']
        simp only [printL]
        by_cases h0 : i = 0
        · subst h0; simp
        · have e1 : (i == 0) = false := by simpa using h0
          have e2 : (i + 1 == 0) = false := rfl
          rw [e1, e2]
          simp [h0]
    rw [hr] at hb ⊢
    rw [h1, cond_true, chk_pos h2, hg, hw]
    -- from the name on
    have key : ∀ s' : Str, (s' ++ ((if v.kind = 7 then qtS (v.names.getD i []) ++ [58] else []) ++ (printJ v.items[i] ++ restP v (i + 1)))).length ≤ 100000000000 →
        (bif (v.kind == 7) then (chk (decide ((0 : Int) ≤ (i : Int)) && decide ((i : Int) < (v.names.length : Int))) (q56 (v.names.getD (i : Int).toNat (Ty.dflt .str)) (zs s') (fun y26 => q25 58 y26 (fun y27 => f v.items[i] y27 (fun y28 => q59_18_0_L f F z v.items (v.items.length : Int) ((i + 1 : Nat) : Int) y28 v e0))))) else (f v.items[i] (zs s') (fun y29 => q59_18_0_L f F z v.items (v.items.length : Int) ((i + 1 : Nat) : Int) y29 v e0))) =
        e0 z (zs (s' ++ ((if v.kind = 7 then qtS (v.names.getD i []) ++ [58] else []) ++ (printJ v.items[i] ++ restP v (i + 1))))) := by
      intro s' hb'
      by_cases h7' : v.kind = 7
      · rw [if_pos h7'] at hb' ⊢
        have hk : (v.kind == 7) = true := by simpa using h7'
        have hn := (h7 h7').1
        have hni : i < v.names.length := by omega
        have hgn : v.names.getD (i : Int).toNat (Ty.dflt .str) = v.names.getD i [] := rfl
        have hgi : v.names.getD i [] = v.names[i] := getD_at hni _
        obtain ⟨hv1, hv2⟩ := (h7 h7').2 v.names[i] (List.getElem_mem hni)
        rw [hk, cond_true, chk_pos (by simp; omega), hgn]
        rw [hgi] at hb' ⊢
        have e58 : ((58 : UInt8).toNat : Int) = 58 := rfl
        simp only [List.length_append, List.length_cons, List.length_nil] at hb'
        rw [wq _ _ hv1 hv2 (by rw [List.length_append]; omega), ← e58, wb _ _ (by unfold Lim; rw [List.length_append]; omega), hf _ (List.getElem_mem h) _ _ (by simp only [List.length_append, List.length_cons, List.length_nil]; omega),
          ih (i + 1) _ (by omega) (by omega) (by simp only [List.length_append, List.length_cons, List.length_nil]; omega)]
        simp only [List.append_assoc]
      · rw [if_neg h7'] at hb' ⊢
        have hk : (v.kind == 7) = false := by simpa using h7'
        rw [List.nil_append] at hb' ⊢
        simp only [List.length_append] at hb'
        rw [hk, cond_false, hf _ (List.getElem_mem h) _ _ (by rw [List.length_append]; omega), ih (i + 1) _ (by omega) (by omega) (by simp only [List.length_append]; omega)]
        simp only [List.append_assoc]
    by_cases h0 : i = 0
    · subst h0
      rw [if_pos rfl, List.nil_append] at hb ⊢
      exact key s hb
    · rw [if_neg h0] at hb ⊢
      have e3 : decide ((i : Int) > 0) = true := by simp; omega
      have e44 : ((44 : UInt8).toNat : Int) = 44 := rfl
      have hb2 := hb
      simp only [List.length_append, List.length_cons, List.length_nil] at hb2
      rw [e3, cond_true, ← e44, wb _ _ (by unfold Lim; omega)]
      have := key (s ++ [44]) (by simp only [List.length_append, List.length_cons, List.length_nil]; omega)
      rw [List.append_assoc] at this
      exact this
theorem uniq_valid : ∀ (ns : List Str) (seen : List Str), uniqN seen ns = true → ∀ t ∈ ns, validS t = true
  | [], _, _, t, h => by cases h
  | n :: ns, seen, h, t, ht => by
    simp only [uniqN, Bool.and_eq_true] at h
    rcases List.mem_cons.1 ht with rfl | ht
    · exact h.1.2
    · exact uniq_valid ns _ h.2 t ht
theorem write_N {R : Type} : ∀ (n : Nat) (v : Json) (d : Int), rightJ v d = true → lenJ v = true → v.depth < n → ∀ (s : Str) (k : List Int → Option R), (s ++ printJ v).length ≤ 100000000000 → q59_N n v (zs s) k = k (zs (s ++ printJ v)) := by
  intro n
  induction n with
  | zero => intro v d _ _ h; omega
  | succ n ih =>
    intro v d hr hl hn s k hb
    obtain ⟨hns, his, hil, htx, hnl⟩ := lenJ_iff.1 hl
    have e0 : q59_N (n + 1) v (zs s) k = q59_X q64 q25 q21 q56 (q59_18_0_L (q59_N n)) v (zs s) k := rfl
    rw [e0]
    have hloop : ∀ (z : Str) (e : Str → List Int → Option R) (F : Nat) (s' : Str), (v.kind = 7 → v.names.length = v.items.length ∧ ∀ t ∈ v.names, validS t = true ∧ t.length ≤ 10000000000) → rightL v.items (d + 1) = true → v.items.length < F → (s' ++ restP v 0).length ≤ 100000000000 →
        q59_18_0_L (q59_N n) F z v.items (v.items.length : Int) 0 (zs s') v e = e z (zs (s' ++ restP v 0)) := fun z e F s' h7 hi hF hb' =>
      write_loop (q59_N n) z v his h7 (fun x hx s k hb => ih x (d + 1) (rightL_mem hi hx) (lenL_mem hil hx) (by have := jdepth_item hx; omega) s k hb) e F 0 s' (by omega) (by omega) hb'
    cases rightJ_iff.1 hr with
    | name kd _ hd hk =>
      rcases hk with rfl | rfl | rfl
      · show q21 nullS (zs s) (fun y3 y4 => k y4) = k (zs (s ++ nullS))
        exact ws nullS s (by decide) (by unfold Lim; rw [List.length_append] at hb; omega) _
      · show q21 falseS (zs s) (fun y3 y4 => k y4) = k (zs (s ++ falseS))
        exact ws falseS s (by decide) (by unfold Lim; rw [List.length_append] at hb; omega) _
      · show q21 trueS (zs s) (fun y3 y4 => k y4) = k (zs (s ++ trueS))
        exact ws trueS s (by decide) (by unfold Lim; rw [List.length_append] at hb; omega) _
    | num nm _ hd hnm =>
      have hb2 : (s ++ prtA nm).length ≤ 100000000000 := hb
      rw [List.length_append] at hb2
      show q64 ⟨nm.mant, nm.exp⟩ (fun y9 => q21 y9 (zs s) (fun y10 y11 => k y11)) = k (zs (s ++ prtA nm))
      rw [print_any]
      exact ws (prtA nm) s (by omega) (by unfold Lim; omega) _
    | text t _ hd ht => exact wq t s ht htx hb k
    | arr is _ hd hi =>
      have hb2 : (s ++ (91 :: (printL is true ++ [93]))).length ≤ 100000000000 := hb
      simp only [List.length_append, List.length_cons, List.length_nil] at hb2
      have e91 : ((91 : UInt8).toNat : Int) = 91 := rfl
      have e93 : ((93 : UInt8).toNat : Int) = 93 := rfl
      show q25 ((91 : UInt8).toNat : Int) (zs s) (fun y14 => q59_18_0_L (q59_N n) _ [91, 93] is (is.length : Int) 0 y14 ⟨6, ⟨0, 0⟩, [], [], is⟩ (fun y30 y31 => chk (decide ((1 : Int) < (y30.length : Int))) (q25 ((y30.getD 1 0).toNat : Int) y31 (fun y32 => k y32)))) = k (zs (s ++ (91 :: (printL is true ++ [93]))))
      rw [wb _ _ (by unfold Lim; omega)]
      simp only at hloop
      have hz : restP ⟨6, ⟨0, 0⟩, [], [], is⟩ 0 = printL is true := rfl
      rw [hz] at hloop
      rw [hloop _ _ _ _ (fun h => by cases h) hi]
      rotate_left
      · simp only [List.length_cons, List.length_nil]; omega
      · simp only [List.length_append, List.length_cons, List.length_nil]; omega
      show q25 ((93 : UInt8).toNat : Int) (zs ((s ++ [91]) ++ printL is true)) (fun y32 => k y32) = _
      rw [wb _ _ (by unfold Lim; simp only [List.length_append, List.length_cons, List.length_nil]; omega)]
      simp only [List.append_assoc, List.cons_append, List.nil_append]
    | obj ns is _ hd hlen hu hi =>
      have hb2 : (s ++ (123 :: (printO ns is true ++ [125]))).length ≤ 100000000000 := hb
      simp only [List.length_append, List.length_cons, List.length_nil] at hb2
      show q25 ((123 : UInt8).toNat : Int) (zs s) (fun y14 => q59_18_0_L (q59_N n) _ [123, 125] is (is.length : Int) 0 y14 ⟨7, ⟨0, 0⟩, [], ns, is⟩ (fun y30 y31 => chk (decide ((1 : Int) < (y30.length : Int))) (q25 ((y30.getD 1 0).toNat : Int) y31 (fun y32 => k y32)))) = k (zs (s ++ (123 :: (printO ns is true ++ [125]))))
      rw [wb _ _ (by unfold Lim; omega)]
      simp only at hloop
      have hz : restP ⟨7, ⟨0, 0⟩, [], ns, is⟩ 0 = printO ns is true := rfl
      rw [hz] at hloop
      rw [hloop _ _ _ _ (fun _ => ⟨hlen, fun t ht => ⟨uniq_valid ns [] hu t ht, hnl t ht⟩⟩) hi]
      rotate_left
      · simp only [List.length_cons, List.length_nil]; omega
      · simp only [List.length_append, List.length_cons, List.length_nil]; omega
      show q25 ((125 : UInt8).toNat : Int) (zs ((s ++ [123]) ++ printO ns is true)) (fun y32 => k y32) = _
      rw [wb _ _ (by unfold Lim; simp only [List.length_append, List.length_cons, List.length_nil]; omega)]
      simp only [List.append_assoc, List.cons_append, List.nil_append]
theorem loops_same {R : Type} : ∀ (F : Nat) (a : Str) (b : List Json) (c d : Int) (e : List Int) (f : Json) (g : Str → List Int → Option R), q58_18_0_L F a b c d e f g = q59_18_0_L q59 F a b c d e f g := by
  intro F
  induction F with
  | zero => intros; rfl
  | succ F ih =>
    intro a b c d e f g
    have h1 : q58_18_0_L (F + 1) a b c d e f g = q59_18_0_B q25 q59 q56 (fun x0' x1' x2' x3' x4' x5' => q58_18_0_L F x0' x1' x2' x3' x4' x5' g) a b c d e f g := rfl
    have h2 : q59_18_0_L q59 (F + 1) a b c d e f g = q59_18_0_B q25 q59 q56 (fun x0' x1' x2' x3' x4' x5' => q59_18_0_L q59 F x0' x1' x2' x3' x4' x5' g) a b c d e f g := rfl
    rw [h1, h2]
    simp only [ih]
theorem print_json {R : Type} (v : Json) (hr : rightJ v 1 = true) (hl : lenJ v = true) (hb : (printJ v).length ≤ 100000000000) (k : Str → Option R) : q77 v k = k (printJ v) := by
  have e0 : q77 v k = q77_X q83 q58 v k := rfl
  rw [e0]
  unfold q77_X
  simp only [Json.eta]
  rw [right_json v hl, hr, Bool.not_true, cond_false]
  have e1 : q58 v (fun y3 => k (bstr y3)) = q58_X q64 q26 q25 q20 q57 q58_18_0_L v (fun y3 => k (bstr y3)) := rfl
  rw [e1]
  obtain ⟨hns, his, hil, htx, hnl⟩ := lenJ_iff.1 hl
  have hloop : ∀ (z : Str) (e : Str → List Int → Option R) (F : Nat) (s' : Str), (v.kind = 7 → v.names.length = v.items.length ∧ ∀ t ∈ v.names, validS t = true ∧ t.length ≤ 10000000000) → rightL v.items (1 + 1) = true → v.items.length < F → (s' ++ restP v 0).length ≤ 100000000000 →
      q59_18_0_L q59 F z v.items (v.items.length : Int) 0 (zs s') v e = e z (zs (s' ++ restP v 0)) := fun z e F s' h7 hi hF hb' =>
    write_loop q59 z v his h7 (fun x hx s k hb => write_N (x.depth + 2) x (1 + 1) (rightL_mem hi hx) (lenL_mem hil hx) (by omega) s k hb) e F 0 s' (by omega) (by omega) hb'
  cases rightJ_iff.1 hr with
  | name kd _ hd hk =>
    rcases hk with rfl | rfl | rfl
    · show q20 nullS (fun y3 y4 => k (bstr y4)) = k nullS
      rw [wsn nullS (by decide), bstr_zs]
    · show q20 falseS (fun y3 y4 => k (bstr y4)) = k falseS
      rw [wsn falseS (by decide), bstr_zs]
    · show q20 trueS (fun y3 y4 => k (bstr y4)) = k trueS
      rw [wsn trueS (by decide), bstr_zs]
  | num nm _ hd hnm =>
    have hb2 : (prtA nm).length ≤ 100000000000 := hb
    show q64 ⟨nm.mant, nm.exp⟩ (fun y9 => q20 y9 (fun y10 y11 => k (bstr y11))) = k (prtA nm)
    rw [print_any]
    show q20 (prtA nm) (fun y10 y11 => k (bstr y11)) = k (prtA nm)
    rw [wsn _ hb2, bstr_zs]
  | text t _ hd ht =>
    have hb2 : (qtS t).length ≤ 100000000000 := hb
    show q70 t (fun y2 y3 => q20 y2 (fun y4 y5 => k (bstr y5))) = k (qtS t)
    obtain ⟨rs, hrs, hc, rfl, _, hq⟩ | ⟨h, _⟩ := quote_any (R := R) t htx
    · rw [hq, qtS_enc hrs]
      rw [qtS_enc hrs] at hb2
      show q20 (qt rs) (fun y4 y5 => k (bstr y5)) = k (qt rs)
      rw [wsn _ hb2, bstr_zs]
    · rw [ht] at h; cases h
  | arr is _ hd hi =>
      have hb2 : (91 :: (printL is true ++ [93]) : Str).length ≤ 100000000000 := hb
      simp only [List.length_append, List.length_cons, List.length_nil] at hb2
      show q58_18_0_L _ [91, 93] is (is.length : Int) 0 (zs ([] ++ [91])) ⟨6, ⟨0, 0⟩, [], [], is⟩ (fun y29 y30 => chk (decide ((1 : Int) < (y29.length : Int))) (q25 ((y29.getD 1 0).toNat : Int) y30 (fun y31 => k (bstr y31)))) = k (91 :: (printL is true ++ [93]))
      simp only at hloop
      have hz : restP ⟨6, ⟨0, 0⟩, [], [], is⟩ 0 = printL is true := rfl
      rw [hz] at hloop
      rw [loops_same, hloop _ _ _ _ (fun h => by cases h) hi]
      rotate_left
      · simp only [List.length_cons, List.length_nil]; omega
      · simp only [List.length_append, List.length_cons, List.length_nil]; omega
      show q25 ((93 : UInt8).toNat : Int) (zs (([] ++ [91]) ++ printL is true)) (fun y32 => k (bstr y32)) = _
      rw [wb _ _ (by unfold Lim; simp only [List.length_append, List.length_cons, List.length_nil]; omega), bstr_zs]
      simp only [List.append_assoc, List.cons_append, List.nil_append]
  | obj ns is _ hd hlen hu hi =>
      have hb2 : (123 :: (printO ns is true ++ [125]) : Str).length ≤ 100000000000 := hb
      simp only [List.length_append, List.length_cons, List.length_nil] at hb2
      show q58_18_0_L _ [123, 125] is (is.length : Int) 0 (zs ([] ++ [123])) ⟨7, ⟨0, 0⟩, [], ns, is⟩ (fun y29 y30 => chk (decide ((1 : Int) < (y29.length : Int))) (q25 ((y29.getD 1 0).toNat : Int) y30 (fun y31 => k (bstr y31)))) = k (123 :: (printO ns is true ++ [125]))
      simp only at hloop
      have hz : restP ⟨7, ⟨0, 0⟩, [], ns, is⟩ 0 = printO ns is true := rfl
      rw [hz] at hloop
      rw [loops_same, hloop _ _ _ _ (fun _ => ⟨hlen, fun t ht => ⟨uniq_valid ns [] hu t ht, hnl t ht⟩⟩) hi]
      rotate_left
      · simp only [List.length_cons, List.length_nil]; omega
      · simp only [List.length_append, List.length_cons, List.length_nil]; omega
      show q25 ((125 : UInt8).toNat : Int) (zs (([] ++ [123]) ++ printO ns is true)) (fun y32 => k (bstr y32)) = _
      rw [wb _ _ (by unfold Lim; simp only [List.length_append, List.length_cons, List.length_nil]; omega), bstr_zs]
      simp only [List.append_assoc, List.cons_append, List.nil_append]
end Go.Proofs.YtmlkkgfenfdndaaGreatDoor
namespace Go.Yard
open Go.RowKit Go.Proofs.YtmlkkgfenfdndaaGreatDoor Go.ChangeShapes Go.WideShapes
mutual
inductive Wt : Nat → V → Prop where
  | int {n : Nat} {k : IntKind} {z : Int} (h1 : 1 ≤ n) (h : k.has z) : Wt n (.int k z)
  | bool {n : Nat} (h1 : 1 ≤ n) (b : Bool) : Wt n (.bool b)
  | str {n : Nat} {s : Str} (h : s.length + 1 ≤ n) : Wt n (.str s)
  | sl {n m : Nat} {T : Ty} {l : List T.den} (h : m + 1 ≤ n) (he : WtLL m (l.map T.cells)) : Wt n (.sl T l .no)
inductive WtL : Nat → List V → Prop where
  | nil : WtL 0 []
  | cons {a b : Nat} {v : V} {vs : List V} (h : Wt a v) (t : WtL b vs) : WtL (a + b) (v :: vs)
inductive WtLL : Nat → List (List V) → Prop where
  | nil : WtLL 0 []
  | cons {a b : Nat} {v : List V} {vs : List (List V)} (h : WtL a v) (t : WtLL b vs) : WtLL (a + b) (v :: vs)
end
theorem WtL.append : ∀ {x y : List V} {a b : Nat}, WtL a x → WtL b y → WtL (a + b) (x ++ y)
  | [], _, _, _, .nil, h => by rw [Nat.zero_add]; exact h
  | v :: x, y, _, b, .cons (a := p) (b := q) h t, h' => by
    rw [Nat.add_assoc]
    exact .cons h (WtL.append t h')
theorem Wt.one {p : Leaf} {x : p.den} {n : Nat} (h : Wt n (p.enc x)) : WtL n [p.enc x] := .cons (b := 0) h .nil
section
variable {H : Type} {enc : TypeId × Value → H} {P : Program} {tt : TTab} {w : World} {spare : Nat → Bool} {held : Bool}
def ReadsW (w : World) (N : Nat) (ls : List Leaf) (cs : List Value) : Prop := ∃ vs n, IsEnc ls vs ∧ RepL w [] cfg0 vs cs ∧ WtL n vs ∧ n ≤ N
theorem ReadsW.append {N M : Nat} {a b : List Leaf} {x y : List Value} (h : ReadsW w N a x) (k : ReadsW w M b y) : ReadsW w (N + M) (a ++ b) (x ++ y) := by
  obtain ⟨u, n, h1, h2, h3, h4⟩ := h
  obtain ⟨v, m, k1, k2, k3, k4⟩ := k
  exact ⟨u ++ v, n + m, h1.append k1, h2.append k2, h3.append k3, by omega⟩
theorem ReadsW.nil {N : Nat} : ReadsW w N [] [] := ⟨[], 0, .nil, .nil, .nil, Nat.zero_le _⟩
theorem ReadsW.one {N : Nat} {p : Leaf} {x : p.den} {d : Value} (h : Rep w [] cfg0 (p.enc x) d) (s : Wt N (p.enc x)) : ReadsW w N [p] [d] :=
  ⟨[p.enc x], N, .one p x, .cons h .nil, Wt.one s, Nat.le_refl _⟩
theorem ReadsW.le {N M : Nat} {ls : List Leaf} {cs : List Value} (h : ReadsW w N ls cs) (hm : N ≤ M) : ReadsW w M ls cs := by
  obtain ⟨u, n, h1, h2, h3, h4⟩ := h
  exact ⟨u, n, h1, h2, h3, by omega⟩
theorem wtll_of {T : Ty} : ∀ (l : List T.den) (es : List (DataW H)), l.length = es.length → (∀ (i : Nat) (y : T.den) (e : DataW H), l[i]? = some y → es[i]? = some e → ∃ n, WtL n (T.cells y) ∧ n ≤ Rows.uptoBulk e) → ∃ m, WtLL m (l.map T.cells) ∧ m ≤ Rows.uptoBulkAll es
  | [], es, _, _ => ⟨0, .nil, Nat.zero_le _⟩
  | y :: l, [], h, _ => by cases h
  | y :: l, e :: es, h, hh => by
    obtain ⟨n, h1, h2⟩ := hh 0 y e rfl rfl
    obtain ⟨m, h3, h4⟩ := wtll_of l es (by simpa using h) fun i y e hy he => hh (i + 1) y e hy he
    exact ⟨n + m, .cons h1 h3, by simp only [Rows.uptoBulkAll]; omega⟩
theorem read_fieldsW {n m : Nat} (ih : ∀ (t : TypeId) (cs : List Value) (x : DataW H × List MemPlace) (ls : List Leaf), DataW.trod enc P w 0 spare held n t cs = some x → leavesOf P tt m t = some ls → Rows.uptoBulk x.1 ≤ mx → ReadsW w (Rows.uptoBulk x.1) ls cs) (cs : List Value) :
    ∀ (fs : List Field) (j : Nat) (xs : List (DataW H × List MemPlace)) (ls : List Leaf), (fs.mapM fun f => DataW.trod enc P w 0 spare held n f.type ((cs.drop f.offset).take (P.cellsOf f.type))) = some xs →
      leavesFs P (leavesOf P tt m) fs j cs.length = some ls → Rows.uptoBulkAll (xs.map (·.1)) ≤ mx → ReadsW w (Rows.uptoBulkAll (xs.map (·.1))) ls (cs.drop j)
  | [], j, xs, ls, _, hl, _ => by
    unfold leavesFs at hl
    split at hl
    · rename_i hj
      cases hl
      rw [List.drop_eq_nil_of_le (by omega)]
      exact .nil
    · cases hl
  | f :: fs, j, xs, ls, hx, hl, hb => by
    simp only [List.mapM_cons, Option.pure_def, Option.bind_eq_bind, Option.bind_eq_some_iff] at hx
    obtain ⟨y, hy, ys, hys, e⟩ := hx
    cases e
    simp only [List.map_cons, Rows.uptoBulkAll] at hb
    unfold leavesFs at hl
    split at hl
    · rename_i ho
      split at hl
      · rename_i a ha
        split at hl
        · rename_i hsz
          split at hl
          · rename_i b hb'
            cases hl
            rw [ho] at hy
            have r1 := ih _ _ _ _ hy ha (by omega)
            have r2 := read_fieldsW ih cs fs (j + a.length) ys b hys hb' (by omega)
            have e : cs.drop j = (cs.drop j).take (P.cellsOf f.type) ++ cs.drop (j + a.length) := by
              rw [← hsz, ← List.drop_drop]
              exact (List.take_append_drop a.length (cs.drop j)).symm
            rw [e]
            exact r1.append r2
          · cases hl
        · cases hl
      · cases hl
    · cases hl
theorem read_arrW {n m : Nat} {e : TypeId} (ih : ∀ (t : TypeId) (cs : List Value) (x : DataW H × List MemPlace) (ls : List Leaf), DataW.trod enc P w 0 spare held n t cs = some x → leavesOf P tt m t = some ls → Rows.uptoBulk x.1 ≤ mx → ReadsW w (Rows.uptoBulk x.1) ls cs) (cs : List Value) {a : List Leaf} (ha : leavesOf P tt m e = some a) :
    ∀ (k i : Nat) (ls : List Leaf) (es : List (DataW H)), es.length = k → (∀ q y, es[q]? = some y → ∃ x, DataW.trod enc P w 0 spare held n e ((cs.drop ((i + q) * P.cellsOf e)).take (P.cellsOf e)) = some x ∧ x.1 = y) → Rows.uptoBulkAll es ≤ mx →
      leavesArr (some a) (P.cellsOf e) k (i * P.cellsOf e) cs.length = some ls → ReadsW w (Rows.uptoBulkAll es) ls (cs.drop (i * P.cellsOf e))
  | 0, i, ls, es, _, _, _, hl => by
    unfold leavesArr at hl
    split at hl
    · rename_i hj
      cases hl
      rw [List.drop_eq_nil_of_le (by omega)]
      exact .nil
    · cases hl
  | k + 1, i, ls, [], h0, hx, hbm, hl => by cases h0
  | k + 1, i, ls, y0 :: es, h0, hx, hbm, hl => by
    unfold leavesArr at hl
    simp only at hl
    split at hl
    · rename_i hsz
      split at hl
      · rename_i b hb'
        cases hl
        obtain ⟨x, h1, rfl⟩ := hx 0 y0 rfl
        simp only [Rows.uptoBulkAll] at hbm ⊢
        have r1 := ih _ _ _ _ h1 ha (by omega)
        rw [hsz] at hb'
        have e1 : i * P.cellsOf e + P.cellsOf e = (i + 1) * P.cellsOf e := by rw [Nat.add_mul]; omega
        rw [e1] at hb'
        have r2 := read_arrW ih cs ha k (i + 1) b es (by simpa using h0) (fun q y hq => by
          have := hx (q + 1) y hq
          rw [show i + (q + 1) = i + 1 + q by omega] at this
          exact this) (by omega) hb'
        have e : cs.drop (i * P.cellsOf e) = (cs.drop (i * P.cellsOf e)).take (P.cellsOf e) ++ cs.drop ((i + 1) * P.cellsOf e) := by
          rw [← e1, ← List.drop_drop]
          exact (List.take_append_drop _ _).symm
        rw [e]
        exact r1.append r2
      · cases hl
    · cases hl
theorem read_trodW (hall : LeavesOk P tt) : ∀ (n : Nat) (t : TypeId) (cs : List Value) (x : DataW H × List MemPlace) (m : Nat) (ls : List Leaf), DataW.trod enc P w 0 spare held n t cs = some x → leavesOf P tt m t = some ls →
    Rows.uptoBulk x.1 ≤ mx → ReadsW w (Rows.uptoBulk x.1) ls cs
  | 0, _, _, _, _, _, h, _, _ => by simp [DataW.trod] at h
  | n + 1, t, cs, x, 0, ls, _, hl, _ => by simp [leavesOf] at hl
  | n + 1, t, cs, x, m + 1, ls, h, hl, hb => by
    have ih : ∀ (t : TypeId) (cs : List Value) (x : DataW H × List MemPlace) (ls : List Leaf), DataW.trod enc P w 0 spare held n t cs = some x → leavesOf P tt m t = some ls → Rows.uptoBulk x.1 ≤ mx → ReadsW w (Rows.uptoBulk x.1) ls cs :=
      fun t cs x ls h1 h2 h3 => read_trodW hall n t cs x m ls h1 h2 h3
    have ih8 : ∀ (t : TypeId) (cs : List Value) (x : DataW H × List MemPlace) (ls : List Leaf), DataW.trod enc P w 0 spare held n t cs = some x → leavesOf P tt 8 t = some ls → Rows.uptoBulk x.1 ≤ mx → ReadsW w (Rows.uptoBulk x.1) ls cs :=
      fun t cs x ls h1 h2 h3 => read_trodW hall n t cs x 8 ls h1 h2 h3
    unfold leavesOf at hl
    unfold DataW.trod at h
    cases hu : P.underlying t with
    | none => rw [hu] at hl; cases hl
    | some u =>
      rw [hu] at hl h
      cases u <;> simp only at hl <;> try (first | cases hl)
      case some.bool.refl =>
        rcases cs with _ | ⟨c, _ | ⟨c2, r⟩⟩
        · simp at h
        · cases c <;> simp at h
          exact .one (p := .bool) (.bool _) (.bool (bulk_one _) _)
        · simp at h
      case some.int.refl k =>
        rcases cs with _ | ⟨c, _ | ⟨c2, r⟩⟩
        · simp at h
        · cases c <;> simp at h
          rename_i k' z
          obtain ⟨⟨rfl, hw⟩, _⟩ := h
          have hk : IntKind.has k' z := by
            simp only [Lit.wf, Bool.and_eq_true, decide_eq_true_eq] at hw
            exact hw
          exact .one (p := .int k') (x := z) (.int hk) (.int (bulk_one _) hk)
        · simp at h
      case some.string.refl =>
        rcases cs with _ | ⟨c, _ | ⟨c2, r⟩⟩
        · simp at h
        · cases c <;> simp at h
          rename_i s
          obtain ⟨hs, rfl⟩ := h
          have hb' : s.data.toList.length + 1 ≤ mx := by simp only [Rows.uptoBulk] at hb; omega
          have hsz : s.size ≤ mx := by
            have e : s.data.toList.length = s.size := by rw [Array.length_toList]; rfl
            omega
          exact .one (p := .str) (x := s.data.toList) (.str hsz) (.str (by simp only [Rows.uptoBulk]; omega))
        · simp at h
      case some.slice e =>
        split at hl <;> try (first | cases hl)
        rename_i T hT
        split at hl <;> try (first | cases hl)
        rename_i hsz
        rcases cs with _ | ⟨c, _ | ⟨c2, r⟩⟩
        · simp at h
        · cases c <;> try (simp at h; done)
          rename_i A len cap
          cases A with
          | none =>
            have h0 : len = 0 ∧ cap = 0 := by
              split at h <;> simp_all
            obtain ⟨rfl, rfl⟩ := h0
            refine .one (p := .sl T) (x := []) ?_ (.sl (m := 0) (bulk_one _) .nil)
            exact Rep.sl (T := T) (l := []) (t := .no) (A := none) (cap := 0) (fun _ _ => undef) (Nat.le_refl _) (Nat.zero_le _) (fun i j hi => by simp at hi) (fun i j x v hx => by simp at hx) (by simp) (by simp)
          | some a =>
            simp only [Nat.zero_le, true_and] at h
            split at h <;> try (first | cases h)
            rename_i hc
            simp only [Option.bind_eq_some_iff, Option.map_eq_some_iff] at h
            obtain ⟨elems, he, rest, hr, rfl⟩ := h
            obtain ⟨g1, g2⟩ := mapM_get he
            simp only [List.length_range] at g1
            simp only [Rows.uptoBulk] at hb
            have hlen : len ≤ mx := by
              have := bulk_len (elems.map (·.1))
              simp only [List.length_map] at this
              omega
            have key : ∀ i, i < len → ∃ y : T.den, ∃ ds : List Value, w.cells? 0 (a.add (i * P.cellsOf e)) (P.cellsOf e) = some ds ∧ RepL w [] cfg0 (T.cells y) ds ∧ ∃ n, WtL n (T.cells y) ∧ ∀ z, elems[i]? = some z → n ≤ Rows.uptoBulk z.1 := by
              intro i hi
              obtain ⟨z, hz, hz2⟩ := g2 i i (by simp [hi])
              simp only [Option.bind_eq_some_iff] at hz2
              obtain ⟨ds, hd1, hd2⟩ := hz2
              have hmem : z.1 ∈ elems.map (·.1) := List.mem_map.2 ⟨z, List.mem_of_getElem? hz, rfl⟩
              obtain ⟨vs, nw, ⟨q, rfl⟩, k2, k3, k4⟩ := ih8 _ _ _ _ hd2 (hall e T hT) (by have := bulk_part hmem; omega)
              obtain ⟨y, hy⟩ := leaves_cells T q
              rw [← hy] at k2 k3
              exact ⟨y, ds, hd1, k2, nw, k3, fun z' hz' => by rw [hz] at hz'; cases hz'; exact k4⟩
            obtain ⟨l, hl1, hl2⟩ := list_of _ len key
            obtain ⟨mm, hm1, hm2⟩ := wtll_of l (elems.map (·.1)) (by simp; omega) fun i y e hy he => by
              obtain ⟨_, _, _, nn, hn1, hn2⟩ := hl2 i y hy
              rw [List.getElem?_map] at he
              obtain ⟨z, hz, rfl⟩ := Option.map_eq_some_iff.1 he
              exact ⟨nn, hn1, hn2 z hz⟩
            refine .one (p := .sl T) (x := l) ?_ (.sl (m := mm) (by simp only [Rows.uptoBulk]; omega) hm1)
            · have hv : (Value.slice (some a) len cap) = .slice (some a) l.length cap := by rw [hl1]
              rw [hv]
              refine Rep.sl (fun i j => (w.cell? ((a.add (i * T.sz)).add j)).getD undef) (by omega) (Nat.le_trans hc.2 (Nat.le_of_ble_eq_true rfl)) (fun i j hi hj => ?_) (fun i j y v hy hv => ?_) (by simp) (by simp)
              · obtain ⟨y, hy⟩ : ∃ y, l[i]? = some y := ⟨l[i], by simp [hi]⟩
                obtain ⟨ds, d1, d2, _⟩ := hl2 i y hy
                rw [hsz] at d1
                obtain ⟨c1, c2⟩ := cells?_get d1
                obtain ⟨v, v1, v2⟩ := c2 j hj
                have ea : a = ⟨a.block, a.off, none⟩ := by
                  have hs0 : a.spot = none := by
                    obtain ⟨y0, hy0⟩ : ∃ y, l[0]? = some y := ⟨l[0], by simp⟩
                    obtain ⟨ds0, d01, _, _⟩ := hl2 0 y0 hy0
                    rw [hsz] at d01
                    obtain ⟨_, c02⟩ := cells?_get d01
                    obtain ⟨v0, _, v02⟩ := c02 0 (Ty.sz_pos T)
                    simp only [Nat.zero_mul, Addr.add, if_true] at v02
                    exact spot_none v02
                  cases a; simp_all
                refine ⟨a.block, a.off, by rw [← ea], ?_, free0 _ _⟩
                have e2 := addr_add (a := a) (by rw [ea]) (i * T.sz) j
                rw [e2, v2]; rfl
              · have hi : i < l.length := (List.getElem?_eq_some_iff.1 hy).1
                obtain ⟨ds, d1, d2, _⟩ := hl2 i y hy
                rw [hsz] at d1
                obtain ⟨c1, c2⟩ := cells?_get d1
                have hj : j < T.sz := by rw [← T.cells_len y]; exact (List.getElem?_eq_some_iff.1 hv).1
                obtain ⟨u, v1, v2⟩ := c2 j hj
                rw [v2]
                exact d2.2 j v u hv v1
        · simp at h
      case some.struct fs =>
        simp only at h
        split at h
        · rename_i hcs
          simp only [Option.map_eq_some_iff] at h
          obtain ⟨xs, hx, rfl⟩ := h
          simp only [Rows.uptoBulk] at hb
          rw [← hcs] at hl
          have := read_fieldsW ih cs fs.toList 0 xs ls hx hl (by omega)
          exact ReadsW.le (by simpa using this) (by simp only [Rows.uptoBulk]; omega)
        · cases h
      case some.array k e =>
        simp only at h
        split at h
        · rename_i hcs
          simp only [Option.map_eq_some_iff] at h
          obtain ⟨xs, hx, rfl⟩ := h
          simp only [Rows.uptoBulk] at hb
          rw [← hcs] at hl
          obtain ⟨g1, g2⟩ := mapM_get hx
          cases ha : leavesOf P tt m e with
          | none =>
            rw [ha] at hl
            cases k with
            | zero =>
              unfold leavesArr at hl
              split at hl
              · rename_i hj
                cases hl
                have : cs = [] := List.eq_nil_of_length_eq_zero hj.symm
                subst this
                exact .nil
              · cases hl
            | succ k => simp [leavesArr] at hl
          | some a =>
            rw [ha] at hl
            have := read_arrW ih cs ha k 0 ls (xs.map (·.1)) (by simpa using g1) (fun q y hy => by
              rw [List.getElem?_map] at hy
              obtain ⟨z, hz, rfl⟩ := Option.map_eq_some_iff.1 hy
              have hq : q < k := by
                have := (List.getElem?_eq_some_iff.1 hz).1
                simp at g1
                omega
              obtain ⟨y2, hy1, hy2⟩ := g2 q q (by simp [hq])
              rw [hz] at hy1
              cases hy1
              exact ⟨z, by rw [Nat.zero_add]; exact hy2, rfl⟩) (by omega) (by simpa using hl)
            exact ReadsW.le (by simpa using this) (by simp only [Rows.uptoBulk]; omega)
        · cases h
theorem arg_aggW {N : Nat} (hall : LeavesOk P tt) {t : TypeId} {v : Value} {d : DataW H} {ps : List MemPlace} {T : Ty} {base : Nat} (ho : aggCell P t = true) (hl : leavesOf P tt 8 t = some T.leaves) (hval : Value.okWide P w .any base t v)
    (h : DataW.Trod enc P w 0 spare held t v d ps) (hb : Rows.uptoBulk d ≤ N) (hN : N ≤ mx) : ∃ x : T.den, Rep w [] cfg0 (.agg (T.cells x)) v ∧ ∃ n, WtL n (T.cells x) ∧ n ≤ N := by
  obtain ⟨n, h⟩ := h
  obtain ⟨vs, nw, ⟨x, rfl⟩, h2, h3, h4⟩ := read_trodW hall n t _ _ 8 _ h hl (Nat.le_trans hb hN)
  obtain ⟨y, hy⟩ := leaves_cells T x
  rw [← hy] at h2 h3
  have hc : ∃ cs, v = .agg cs := by
    unfold aggCell at ho
    unfold Value.okWide at hval
    cases hu : P.underlying t with
    | none => rw [hu] at ho; cases ho
    | some u =>
      rw [hu] at ho hval
      cases u <;> simp only at ho <;> try (first | cases ho) <;> (obtain ⟨cs, hc, _⟩ := hval; exact ⟨cs, hc⟩)
  obtain ⟨cs, rfl⟩ := hc
  exact ⟨y, .agg (by have := h2.1; simpa [Value.cells] using this) fun j v d hv hd => h2.2 j v d hv (by simpa [Value.cells] using hd), nw, h3, Nat.le_trans h4 hb⟩
end
end Go.Yard
/-
  Functions of the program as pure Lean functions, and the ties; printed by wip/tools/emit.py.
-/
set_option maxRecDepth 100000
namespace Go.Proofs.YtmlkkgfenfdndaaGreatDoor
open Go Go.Yard
/-! ### humpyard/json.Same -/
abbrev q84_ty (R : Type) : Type := Json → Json → (Bool → Option R) → Option R
abbrev q84_p : List Pat := [.agg [.int .i64, .int .i64, .int .i64, .str, .sl .str, .sl .json], .agg [.int .i64, .int .i64, .int .i64, .str, .sl .str, .sl .json]]
abbrev q84_q : List HPat := []
noncomputable def q84_rr {R : Type} (fn : q84_ty R) : Pat.dens q84_p → HPat.dens q84_q → (V → Heap → Option R) → Option R := fun x y k => fn (⟨x.1.1, ⟨x.1.2.1, x.1.2.2.1⟩, x.1.2.2.2.1, x.1.2.2.2.2.1, x.1.2.2.2.2.2.1⟩ : Json) (⟨x.2.1.1, ⟨x.2.1.2.1, x.2.1.2.2.1⟩, x.2.1.2.2.2.1, x.2.1.2.2.2.2.1, x.2.1.2.2.2.2.2.1⟩ : Json) (fun q0 => k (.bool q0) [])
/-! ### slices.EqualFunc[[]humpyard/api.Json,[]humpyard/api.Json,humpyard/api.Json,humpyard/api.Json] -/
abbrev q17_ty (R : Type) : Type := (List Json) → (List Json) → (Bool → Option R) → Option R
abbrev q17_p : List Pat := [.leaf (.sl .json), .leaf (.sl .json), .leaf (.fn 21)]
abbrev q17_q : List HPat := []
noncomputable def q17_rr {R : Type} (fn : q17_ty R) : Pat.dens q17_p → HPat.dens q17_q → (V → Heap → Option R) → Option R := fun x y k => fn x.1 x.2.1 (fun q0 => k (.bool q0) [])
abbrev q17_4_0_ty (R : Type) : Type := Nat → (List Json) → (List Json) → Int → Int → (Option R) → (Bool → Option R) → Option R
noncomputable def q17_E (R : Type) (h_q84 : q84_ty R) : Env R := fun i => match i with
  | 21 => some (true, (specBy q84_p q84_q (q84_rr h_q84) specNo))
  | _ => none
theorem q17_EOk (R : Type) (h_q84 : q84_ty R) (y_q84 : Yard.Spec.Ok Tryz.prog 21 (specBy q84_p q84_q (q84_rr h_q84) specNo)) : EOk Tryz.prog (q17_E R h_q84) := by
  intro i b sp h
  unfold q17_E at h
  split at h
  · cases h; exact ⟨y_q84, fun h => nomatch h⟩
  · cases h
noncomputable def q17_4_0_B {R : Type} (h_q84 : q84_ty R) (rec' : (List Json) → (List Json) → Int → Int → Option R) (x3 : List Json) (x4 : List Json) (x5 : Int) (x6 : Int) (e0 : Option R) (e1 : Bool → Option R) : Option R :=
  bif (decide (x6 < x5)) then (chk (decide ((0 : Int) ≤ x6) && decide (x6 < x4.length)) (chk (decide ((0 : Int) ≤ x6) && decide (x6 < x3.length)) (h_q84 (⟨(x4.getD x6.toNat (Ty.dflt .json)).kind, ⟨(x4.getD x6.toNat (Ty.dflt .json)).num.mant, (x4.getD x6.toNat (Ty.dflt .json)).num.exp⟩, (x4.getD x6.toNat (Ty.dflt .json)).text, (x4.getD x6.toNat (Ty.dflt .json)).names, (x4.getD x6.toNat (Ty.dflt .json)).items⟩ : Json) (⟨(x3.getD x6.toNat (Ty.dflt .json)).kind, ⟨(x3.getD x6.toNat (Ty.dflt .json)).num.mant, (x3.getD x6.toNat (Ty.dflt .json)).num.exp⟩, (x3.getD x6.toNat (Ty.dflt .json)).text, (x3.getD x6.toNat (Ty.dflt .json)).names, (x3.getD x6.toNat (Ty.dflt .json)).items⟩ : Json) (fun y7 => bif (!y7) then (e1 false) else (rec' x3 x4 x5 (IntKind.i64.wrap (x6 + 1))))))) else (e0)
noncomputable def q17_4_0_L {R : Type} (h_q84 : q84_ty R) : q17_4_0_ty R
  | 0, _, _, _, _, _, _ => none
  | n + 1, x0', x1', x2', x3', e0, e1 => q17_4_0_B h_q84 (fun x0' x1' x2' x3' => q17_4_0_L h_q84 n x0' x1' x2' x3' e0 e1) x0' x1' x2' x3' e0 e1
noncomputable def q17_4_0_h : Hint := { live := [1, 2, 15, 16, 17], own := [], rows := [], cells := [], drop := [], out := [6] }
abbrev q17_4_0_D : Type := (List Json) × (List Json) × Int × Int
noncomputable def q17_4_0_enc : q17_4_0_D → St := fun d => ⟨[.undef, .sl .json d.1 .no, .func 21 [] [], .undef, .undef, .undef, .undef, .undef, .undef, .undef, .undef, .undef, .undef, .undef, .undef, .sl .json d.2.1 .no, .int .i64 d.2.2.1, .int .i64 d.2.2.2, .undef, .undef, .undef, .undef, .undef, .undef, .undef, .undef, .undef, .undef, .undef, .undef, .undef, .undef], []⟩
noncomputable def q17_4_0_x0 {R : Type} (K : Ex → St → Option R) : Option R := K (.exit 0) ⟨[.undef, .undef, .undef, .undef, .undef, .undef, .undef, .undef, .undef, .undef, .undef, .undef, .undef, .undef, .undef, .undef, .undef, .undef, .undef, .undef, .undef, .undef, .undef, .undef, .undef, .undef, .undef, .undef, .undef, .undef, .undef, .undef], []⟩
noncomputable def q17_4_0_x1 {R : Type} (K : Ex → St → Option R) (q0 : Bool) : Option R := K (.ret) ⟨[.undef, .undef, .undef, .undef, .undef, .undef, .bool q0, .undef, .undef, .undef, .undef, .undef, .undef, .undef, .undef, .undef, .undef, .undef, .undef, .undef, .undef, .undef, .undef, .undef, .undef, .undef, .undef, .undef, .undef, .undef, .undef, .undef], []⟩
noncomputable def q17_4_0_s {R : Type} (h_q84 : q84_ty R) (K : Ex → St → Option R) (rc : q17_4_0_D → Option R) (d : q17_4_0_D) : Option R := q17_4_0_B h_q84 (fun z0 z1 z2 z3 => rc (z0, z1, z2, z3)) d.1 d.2.1 d.2.2.1 d.2.2.2 (q17_4_0_x0 K) (q17_4_0_x1 K)
noncomputable def q17_4_0_A {R : Type} (h_q84 : q84_ty R) (K : Ex → St → Option R) (n : Nat) (d : q17_4_0_D) : Option R := q17_4_0_L h_q84 n d.1 d.2.1 d.2.2.1 d.2.2.2 (q17_4_0_x0 K) (q17_4_0_x1 K)
abbrev q17_4_0_p : List Pat := [.leaf (.undef), .leaf (.sl .json), .leaf (.fn 21), .leaf (.undef), .leaf (.undef), .leaf (.undef), .leaf (.undef), .leaf (.undef), .leaf (.undef), .leaf (.undef), .leaf (.undef), .leaf (.undef), .leaf (.undef), .leaf (.undef), .leaf (.undef), .leaf (.sl .json), .leaf (.int .i64), .leaf (.int .i64), .leaf (.undef), .leaf (.undef), .leaf (.undef), .leaf (.undef), .leaf (.undef), .leaf (.undef), .leaf (.undef), .leaf (.undef), .leaf (.undef), .leaf (.undef), .leaf (.undef), .leaf (.undef), .leaf (.undef), .leaf (.undef)]
abbrev q17_4_0_q : List HPat := []
noncomputable def q17_4_0_f (x : Pat.dens q17_4_0_p) (y : HPat.dens q17_4_0_q) : Nat := (List.length x.2.1 + List.length x.2.2.2.2.2.2.2.2.2.2.2.2.2.2.2.1 + Int.natAbs x.2.2.2.2.2.2.2.2.2.2.2.2.2.2.2.2.1 + Int.natAbs x.2.2.2.2.2.2.2.2.2.2.2.2.2.2.2.2.2.1 + 64)
noncomputable def q17_4_0_d (x : Pat.dens q17_4_0_p) (y : HPat.dens q17_4_0_q) : q17_4_0_D := (x.2.1, x.2.2.2.2.2.2.2.2.2.2.2.2.2.2.2.1, x.2.2.2.2.2.2.2.2.2.2.2.2.2.2.2.2.1, x.2.2.2.2.2.2.2.2.2.2.2.2.2.2.2.2.2.1)
noncomputable def q17_4_0_rr {R : Type} (L : q17_4_0_ty R) : Pat.dens q17_4_0_p → HPat.dens q17_4_0_q → (Ex → St → Option R) → Option R := fun x y K => L (q17_4_0_f x y) x.2.1 x.2.2.2.2.2.2.2.2.2.2.2.2.2.2.2.1 x.2.2.2.2.2.2.2.2.2.2.2.2.2.2.2.2.1 x.2.2.2.2.2.2.2.2.2.2.2.2.2.2.2.2.2.1 (q17_4_0_x0 K) (q17_4_0_x1 K)
noncomputable def q17_T (R : Type) (q17_4_0_L : q17_4_0_ty R) : Nat → Option (Hint × LSpec R) := fun i => match i with
  | 4 => some (q17_4_0_h, (loopBy q17_4_0_p q17_4_0_q (q17_4_0_rr q17_4_0_L) loopNo))
  | _ => none
theorem q17_4_0_B_ok {R : Type} (h_q84 : q84_ty R) (q17_4_0_L : q17_4_0_ty R) (K : Ex → St → Option R) (rc : St → Option R) (d : q17_4_0_D) : roundOf tt (q17_E R h_q84) (q17_T R q17_4_0_L) 0 ((loopsOf (codeOf Tryz.f45)).getD 0 .skip) q17_4_0_h (q17_4_0_enc d) rc K = q17_4_0_s h_q84 K (fun d => rc (q17_4_0_enc d)) d := by kernel_rfl
theorem q17_4_0_A_succ {R : Type} (h_q84 : q84_ty R) (K : Ex → St → Option R) (n : Nat) (d : q17_4_0_D) : q17_4_0_A h_q84 K (n + 1) d = q17_4_0_s h_q84 K (q17_4_0_A h_q84 K n) d := by kernel_rfl
theorem q17_4_0_A_zero {R : Type} (h_q84 : q84_ty R) (K : Ex → St → Option R) (d : q17_4_0_D) : q17_4_0_A h_q84 K 0 d = none := by kernel_rfl
theorem q17_4_0_e_ok (x : Pat.dens q17_4_0_p) (y : HPat.dens q17_4_0_q) : (⟨Pat.encL q17_4_0_p x, HPat.encL q17_4_0_q y⟩ : St) = q17_4_0_enc (q17_4_0_d x y) := by kernel_rfl
theorem q17_4_0_r_ok {R : Type} (h_q84 : q84_ty R) (x : Pat.dens q17_4_0_p) (y : HPat.dens q17_4_0_q) (K : Ex → St → Option R) : q17_4_0_rr (q17_4_0_L h_q84) x y K = q17_4_0_A h_q84 K (q17_4_0_f x y) (q17_4_0_d x y) := by kernel_rfl
theorem q17_4_0_ok {R : Type} (h_q84 : q84_ty R) (other : LSpec R) (ho : LsOk tt (q17_E R h_q84) (q17_T R (q17_4_0_L h_q84)) 0 ((loopsOf (codeOf Tryz.f45)).getD 0 .skip) q17_4_0_h other) : LsOk tt (q17_E R h_q84) (q17_T R (q17_4_0_L h_q84)) 0 ((loopsOf (codeOf Tryz.f45)).getD 0 .skip) q17_4_0_h (loopBy q17_4_0_p q17_4_0_q (q17_4_0_rr (q17_4_0_L h_q84)) other) :=
  loopBy_tie (A := q17_4_0_A h_q84) ho (loop_tie q17_4_0_enc (q17_4_0_s h_q84) (q17_4_0_A h_q84) (q17_4_0_A_zero h_q84) (q17_4_0_B_ok h_q84 (q17_4_0_L h_q84)) (q17_4_0_A_succ h_q84)) q17_4_0_f q17_4_0_d q17_4_0_e_ok (q17_4_0_r_ok h_q84)
noncomputable def q17_X {R : Type} (q17_4_0_L : q17_4_0_ty R) (x1 : List Json) (x2 : List Json) (k0 : Bool → Option R) : Option R :=
  bif ((x1.length : Int) != (x2.length : Int)) then (k0 false) else (q17_4_0_L (List.length x2 + List.length x1 + Int.natAbs (x1.length : Int) + Int.natAbs 0 + 64) x2 x1 (x1.length : Int) 0 (k0 true) (fun y8 => k0 y8))
noncomputable def q17 {R : Type} (h_q84 : q84_ty R) : q17_ty R := fun x1 x2 k0 => q17_X (q17_4_0_L h_q84) x1 x2 k0
theorem q17_ok {R : Type} (h_q84 : q84_ty R) (q17_4_0_L : q17_4_0_ty R) (x1 : List Json) (x2 : List Json) (k : V → Heap → Option R) : funK tt (q17_E R h_q84) (q17_T R q17_4_0_L) false Tryz.f45 (codeOf Tryz.f45) [.sl .json x1 .no, .sl .json x2 .no, .func 21 [] []] [] k =
    q17_X q17_4_0_L x1 x2 (fun q0 => k (.bool q0) []) := by kernel_rfl
theorem q17_loops (R : Type) (h_q84 : q84_ty R) : ∀ a ∈ loopsOf (codeOf Tryz.f45), LoopOk tt (q17_E R h_q84) (q17_T R (q17_4_0_L h_q84)) 0 a := by
  refine loops_ok 1 (by kernel_rfl) fun i hi => ?_
  match i, hi with
  | 0, _ => exact loopOk_some (by kernel_rfl) (q17_4_0_ok h_q84 _ loopNo_ok)
  | n + 1, hi => omega
theorem q17_S_ok (R : Type) (h_q84 : q84_ty R) (y_q84 : Yard.Spec.Ok Tryz.prog 21 (specBy q84_p q84_q (q84_rr h_q84) specNo)) (other : Yard.Spec R) (ho : Yard.Spec.Ok Tryz.prog 45 other) : Yard.Spec.Ok Tryz.prog 45 (specBy q17_p q17_q (q17_rr (q17 h_q84)) other) :=
  specBy_ok ho (funK_sound TT mixed (q17_EOk R h_q84 y_q84) (keep := false) rfl rfl rfl rfl 0 (q17_loops R h_q84)) fun (x : Pat.dens q17_p) (y : HPat.dens q17_q) k => q17_ok h_q84 (q17_4_0_L h_q84) x.1 x.2.1 k
noncomputable def q84_E (R : Type) (q17 : q17_ty R) (q36 : q36_ty R) : Env R := fun i => match i with
  | 45 => some (true, (specBy q17_p q17_q (q17_rr q17) specNo))
  | 44 => some (true, (specBy q36_p q36_q (q36_rr q36) specNo))
  | _ => none
theorem q84_EOk (R : Type) (h_q84 : q84_ty R) (y_q84 : Yard.Spec.Ok Tryz.prog 21 (specBy q84_p q84_q (q84_rr h_q84) specNo)) : EOk Tryz.prog (q84_E R (q17 h_q84) q36) := by
  intro i b sp h
  unfold q84_E at h
  split at h
  · cases h; exact ⟨(q17_S_ok R h_q84 y_q84 _ (specNo_ok _)), fun h => nomatch h⟩
  · cases h; exact ⟨(q36_S_ok R _ (specNo_ok _)), fun h => nomatch h⟩
  · cases h
noncomputable def q84_T (R : Type) : Nat → Option (Hint × LSpec R) := fun i => match i with
  | _ => none
noncomputable def q84_X {R : Type} (q17 : q17_ty R) (q36 : q36_ty R) (x1 : Json) (x2 : Json) (k0 : Bool → Option R) : Option R :=
  bif (x1.kind == x2.kind) then (bif (x1.num.mant == x2.num.mant && (x1.num.exp == x2.num.exp && true)) then (bif (x1.text == x2.text) then (q36 x1.names x2.names (fun y3 => bif y3 then (q17 x1.items x2.items (fun y4 => k0 y4)) else (k0 false))) else (k0 false)) else (k0 false)) else (k0 false)
noncomputable def q84_B {R : Type} (h_q84 : q84_ty R) : q84_ty R := fun x1 x2 k0 => q84_X (q17 h_q84) q36 x1 x2 k0
theorem q84_ok {R : Type} (q17 : q17_ty R) (q36 : q36_ty R) (x1 : Json) (x2 : Json) (k : V → Heap → Option R) : funK tt (q84_E R q17 q36) (q84_T R) false Tryz.f21 (codeOf Tryz.f21) [.agg [.int .i64 x1.kind, .int .i64 x1.num.mant, .int .i64 x1.num.exp, .str x1.text, .sl .str x1.names .no, .sl .json x1.items .no], .agg [.int .i64 x2.kind, .int .i64 x2.num.mant, .int .i64 x2.num.exp, .str x2.text, .sl .str x2.names .no, .sl .json x2.items .no]] [] k =
    q84_X q17 q36 x1 x2 (fun q0 => k (.bool q0) []) := by kernel_rfl
theorem q84_loops (R : Type) (h_q84 : q84_ty R) : ∀ a ∈ loopsOf (codeOf Tryz.f21), LoopOk tt (q84_E R (q17 h_q84) q36) (q84_T R) 0 a := by
  refine loops_ok 0 (by kernel_rfl) fun i hi => ?_
  omega
theorem q84_S_okB (R : Type) (h_q84 : q84_ty R) (y_q84 : Yard.Spec.Ok Tryz.prog 21 (specBy q84_p q84_q (q84_rr h_q84) specNo)) (other : Yard.Spec R) (ho : Yard.Spec.Ok Tryz.prog 21 other) : Yard.Spec.Ok Tryz.prog 21 (specBy q84_p q84_q (q84_rr (q84_B h_q84)) other) :=
  specBy_ok ho (funK_sound TT mixed (q84_EOk R h_q84 y_q84) (keep := false) rfl rfl rfl rfl 0 (q84_loops R h_q84)) fun (x : Pat.dens q84_p) (y : HPat.dens q84_q) k => q84_ok (q17 h_q84) q36 (⟨x.1.1, ⟨x.1.2.1, x.1.2.2.1⟩, x.1.2.2.2.1, x.1.2.2.2.2.1, x.1.2.2.2.2.2.1⟩ : Json) (⟨x.2.1.1, ⟨x.2.1.2.1, x.2.1.2.2.1⟩, x.2.1.2.2.2.1, x.2.1.2.2.2.2.1, x.2.1.2.2.2.2.2.1⟩ : Json) k
noncomputable def q84_N {R : Type} : Nat → q84_ty R
  | 0, _, _, _ => none
  | n + 1, x0', x1', k0' => q84_B (q84_N n) x0' x1' k0'
theorem q84_N_succ {R : Type} (n : Nat) : q84_N (R := R) (n + 1) = q84_B (q84_N n) := by kernel_rfl
theorem q84_N_ok (R : Type) : ∀ n, Yard.Spec.Ok Tryz.prog 21 (specBy q84_p q84_q (q84_rr (q84_N (R := R) n)) specNo) :=
  specBy_fuel (run := fun n => q84_rr (q84_N (R := R) n)) (fun x y k => by kernel_rfl) fun n hyp => q84_S_okB R (q84_N n) hyp specNo (specNo_ok _)
noncomputable def q84 {R : Type} : q84_ty R := fun x1 x2 k0 => q84_N (Json.depth x1 + 2) x1 x2 k0
theorem q84_r_ok (R : Type) : q84_rr (R := R) q84 = fun x y k => q84_rr (q84_N (Json.depth (⟨x.1.1, ⟨x.1.2.1, x.1.2.2.1⟩, x.1.2.2.2.1, x.1.2.2.2.2.1, x.1.2.2.2.2.2.1⟩ : Json) + 2)) x y k := by kernel_rfl
theorem q84_S_ok (R : Type) (other : Yard.Spec R) (ho : Yard.Spec.Ok Tryz.prog 21 other) : Yard.Spec.Ok Tryz.prog 21 (specBy q84_p q84_q (q84_rr q84) other) :=
  specBy_run (specBy_at (run := fun n => q84_rr (q84_N (R := R) n)) (fun x y => (Json.depth (⟨x.1.1, ⟨x.1.2.1, x.1.2.2.1⟩, x.1.2.2.2.1, x.1.2.2.2.2.1, x.1.2.2.2.2.2.1⟩ : Json) + 2)) ho (q84_N_ok R)) (q84_r_ok R)
/-! ### humpyard/humpyardlaw04.awake -/
abbrev q67_ty (R : Type) : Type := (Bool → Option R) → Option R
abbrev q67_p : List Pat := []
abbrev q67_q : List HPat := []
noncomputable def q67_rr {R : Type} (fn : q67_ty R) : Pat.dens q67_p → HPat.dens q67_q → (V → Heap → Option R) → Option R := fun x y k => fn (fun q0 => k (.bool q0) [])
noncomputable def q67_E (R : Type) (q81 : q81_ty R) (q77 : q77_ty R) (q83 : q83_ty R) (q84 : q84_ty R) : Env R := fun i => match i with
  | 20 => some (true, (specBy q81_p q81_q (q81_rr q81) specNo))
  | 17 => some (true, (specBy q77_p q77_q (q77_rr q77) specNo))
  | 32 => some (true, (specBy q83_p q83_q (q83_rr q83) specNo))
  | 21 => some (true, (specBy q84_p q84_q (q84_rr q84) specNo))
  | _ => none
theorem q67_EOk (R : Type) : EOk Tryz.prog (q67_E R q81 q77 q83 q84) := by
  intro i b sp h
  unfold q67_E at h
  split at h
  · cases h; exact ⟨(q81_S_ok R _ (specNo_ok _)), fun h => nomatch h⟩
  · cases h; exact ⟨(q77_S_ok R _ (specNo_ok _)), fun h => nomatch h⟩
  · cases h; exact ⟨(q83_S_ok R _ (specNo_ok _)), fun h => nomatch h⟩
  · cases h; exact ⟨(q84_S_ok R _ (specNo_ok _)), fun h => nomatch h⟩
  · cases h
noncomputable def q67_T (R : Type) : Nat → Option (Hint × LSpec R) := fun i => match i with
  | _ => none
noncomputable def q67_X {R : Type} (q81 : q81_ty R) (q77 : q77_ty R) (q83 : q83_ty R) (q84 : q84_ty R) (k0 : Bool → Option R) : Option R :=
  q81 ([32, 123, 34, 97, 34, 32, 58, 32, 91, 49, 46, 53, 48, 44, 32, 110, 117, 108, 108, 93, 125, 32] : Str) (fun y1 y2 y3 => q81 ([123, 34, 97, 34, 58, 49, 44, 34, 97, 34] : Str) (fun y4 y5 y6 => bif (y2 == 0) then (bif (y3 == 0) then (q77 (⟨y1.kind, ⟨y1.num.mant, y1.num.exp⟩, y1.text, y1.names, y1.items⟩ : Json) (fun y7 => bif (y7 == ([123, 34, 97, 34, 58, 91, 49, 46, 53, 44, 110, 117, 108, 108, 93, 125] : Str)) then (bif (y5 == 42) then (bif (y6 == 7) then (q83 (⟨y1.kind, ⟨y1.num.mant, y1.num.exp⟩, y1.text, y1.names, y1.items⟩ : Json) (fun y8 => bif y8 then (q84 (⟨y1.kind, ⟨y1.num.mant, y1.num.exp⟩, y1.text, y1.names, y1.items⟩ : Json) (⟨y1.kind, ⟨y1.num.mant, y1.num.exp⟩, y1.text, y1.names, y1.items⟩ : Json) (fun y9 => bif y9 then (q84 (⟨y1.kind, ⟨y1.num.mant, y1.num.exp⟩, y1.text, y1.names, y1.items⟩ : Json) (⟨0, ⟨0, 0⟩, ([] : Str), ([] : List Str), ([] : List Json)⟩ : Json) (fun y10 => k0 (!y10))) else (k0 false))) else (k0 false))) else (k0 false)) else (k0 false)) else (k0 false))) else (k0 false)) else (k0 false)))
noncomputable def q67 {R : Type} : q67_ty R := fun  k0 => q67_X q81 q77 q83 q84  k0
theorem q67_ok {R : Type} (q81 : q81_ty R) (q77 : q77_ty R) (q83 : q83_ty R) (q84 : q84_ty R) (k : V → Heap → Option R) : funK tt (q67_E R q81 q77 q83 q84) (q67_T R) false Tryz.f30 (codeOf Tryz.f30) [] [] k =
    q67_X q81 q77 q83 q84  (fun q0 => k (.bool q0) []) := by kernel_rfl
theorem q67_loops (R : Type) : ∀ a ∈ loopsOf (codeOf Tryz.f30), LoopOk tt (q67_E R q81 q77 q83 q84) (q67_T R) 0 a := by
  refine loops_ok 0 (by kernel_rfl) fun i hi => ?_
  omega
theorem q67_S_ok (R : Type) (other : Yard.Spec R) (ho : Yard.Spec.Ok Tryz.prog 30 other) : Yard.Spec.Ok Tryz.prog 30 (specBy q67_p q67_q (q67_rr q67) other) :=
  specBy_ok ho (funK_sound TT mixed (q67_EOk R) (keep := false) rfl rfl rfl rfl 0 (q67_loops R)) fun (x : Pat.dens q67_p) (y : HPat.dens q67_q) k => q67_ok q81 q77 q83 q84  k
/-! ### humpyard/humpyardlaw04.pick -/
abbrev q79_ty (R : Type) : Type := Int → Int → (Int → Option R) → Option R
abbrev q79_p : List Pat := [.leaf (.int .i64), .leaf (.int .i64)]
abbrev q79_q : List HPat := []
noncomputable def q79_rr {R : Type} (fn : q79_ty R) : Pat.dens q79_p → HPat.dens q79_q → (V → Heap → Option R) → Option R := fun x y k => fn x.1 x.2.1 (fun q0 => k (.int .i64 q0) [])
noncomputable def q79_E (R : Type) : Env R := fun i => match i with
  | _ => none
theorem q79_EOk (R : Type) : EOk Tryz.prog (q79_E R) := by
  intro i b sp h
  unfold q79_E at h
  split at h
  · cases h
noncomputable def q79_T (R : Type) : Nat → Option (Hint × LSpec R) := fun i => match i with
  | _ => none
noncomputable def q79_X {R : Type} (x1 : Int) (x2 : Int) (k0 : Int → Option R) : Option R :=
  bif (decide (x1 < (0 : Int))) then (chk (!decide (x2 = 0)) (k0 (Int.tmod (IntKind.i64.wrap (0 - (IntKind.i64.wrap (x1 + 1)))) x2))) else (chk (!decide (x2 = 0)) (k0 (Int.tmod x1 x2)))
noncomputable def q79 {R : Type} : q79_ty R := fun x1 x2 k0 => q79_X x1 x2 k0
theorem q79_ok {R : Type} (x1 : Int) (x2 : Int) (k : V → Heap → Option R) : funK tt (q79_E R) (q79_T R) false Tryz.f35 (codeOf Tryz.f35) [.int .i64 x1, .int .i64 x2] [] k =
    q79_X x1 x2 (fun q0 => k (.int .i64 q0) []) := by kernel_rfl
theorem q79_loops (R : Type) : ∀ a ∈ loopsOf (codeOf Tryz.f35), LoopOk tt (q79_E R) (q79_T R) 0 a := by
  refine loops_ok 0 (by kernel_rfl) fun i hi => ?_
  omega
theorem q79_S_ok (R : Type) (other : Yard.Spec R) (ho : Yard.Spec.Ok Tryz.prog 35 other) : Yard.Spec.Ok Tryz.prog 35 (specBy q79_p q79_q (q79_rr q79) other) :=
  specBy_ok ho (funK_sound TT mixed (q79_EOk R) (keep := false) rfl rfl rfl rfl 0 (q79_loops R)) fun (x : Pat.dens q79_p) (y : HPat.dens q79_q) k => q79_ok x.1 x.2.1 k
end Go.Proofs.YtmlkkgfenfdndaaGreatDoor
/-
  Functions of the program as pure Lean functions, and the ties; printed by wip/tools/emit.py.
-/
set_option maxRecDepth 100000
namespace Go.Proofs.YtmlkkgfenfdndaaGreatDoor
open Go Go.Yard
/-! ### humpyard/humpyardlaw04.Fit -/
abbrev q87_ty (R : Type) : Type := Raw → Int → (Json → Option R) → Option R
abbrev q87_p : List Pat := [.agg [.int .i64, .int .i64, .int .i64, .sl (.int .i64), .sl .raw], .leaf (.int .i64)]
abbrev q87_q : List HPat := []
noncomputable def q87_rr {R : Type} (fn : q87_ty R) : Pat.dens q87_p → HPat.dens q87_q → (V → Heap → Option R) → Option R := fun x y k => fn (⟨x.1.1, x.1.2.1, x.1.2.2.1, x.1.2.2.2.1, x.1.2.2.2.2.1⟩ : Raw) x.2.1 (fun q0 => k (.agg [.int .i64 q0.kind, .int .i64 q0.num.mant, .int .i64 q0.num.exp, .str q0.text, .sl .str q0.names .no, .sl .json q0.items .no]) [])
abbrev q87_18_0_ty (R : Type) : Type := Nat → Int → Int → Int → Str → Bool → Int → Raw → Int → Int → Int → Str → Int → Int → Int → Str → (List Str) → (List Json) → Raw → (Int → Int → Int → Str → Bool → Raw → Int → Int → Int → Str → Int → Int → Int → Str → (List Str) → (List Json) → Raw → Option R) → Option R
abbrev q87_11_0_ty (R : Type) : Type := Nat → Int → Int → Int → Raw → Int → Int → Int → Str → Int → Int → Int → Str → (List Str) → (List Json) → (Int → Int → Int → Str → Int → Int → Int → Str → (List Str) → (List Json) → Option R) → Option R
noncomputable def q87_E (R : Type) (q78 : q78_ty R) (q85 : q85_ty R) (h_q87 : q87_ty R) (q79 : q79_ty R) : Env R := fun i => match i with
  | 37 => some (true, (specBy q78_p q78_q (q78_rr q78) specNo))
  | 28 => some (true, (specBy q85_p q85_q (q85_rr q85) specNo))
  | 16 => some (true, (specBy q87_p q87_q (q87_rr h_q87) specNo))
  | 35 => some (true, (specBy q79_p q79_q (q79_rr q79) specNo))
  | _ => none
theorem q87_EOk (R : Type) (h_q87 : q87_ty R) (y_q87 : Yard.Spec.Ok Tryz.prog 16 (specBy q87_p q87_q (q87_rr h_q87) specNo)) : EOk Tryz.prog (q87_E R q78 q85 h_q87 q79) := by
  intro i b sp h
  unfold q87_E at h
  split at h
  · cases h; exact ⟨(q78_S_ok R _ (specNo_ok _)), fun h => nomatch h⟩
  · cases h; exact ⟨(q85_S_ok R _ (specNo_ok _)), fun h => nomatch h⟩
  · cases h; exact ⟨y_q87, fun h => nomatch h⟩
  · cases h; exact ⟨(q79_S_ok R _ (specNo_ok _)), fun h => nomatch h⟩
  · cases h
noncomputable def q87_18_0_B {R : Type} (rec' : Int → Int → Int → Str → Bool → Int → Raw → Int → Int → Int → Str → Int → Int → Int → Str → (List Str) → (List Json) → Raw → Option R) (x23 : Int) (x24 : Int) (x25 : Int) (x26 : Str) (x27 : Bool) (x28 : Int) (x29 : Raw) (x30 : Int) (x31 : Int) (x32 : Int) (x33 : Str) (x34 : Int) (x35 : Int) (x36 : Int) (x37 : Str) (x38 : List Str) (x39 : List Json) (x40 : Raw) (e0 : Int → Int → Int → Str → Bool → Raw → Int → Int → Int → Str → Int → Int → Int → Str → (List Str) → (List Json) → Raw → Option R) : Option R :=
  bif (decide (x28 < (x38.length : Int))) then (bif x27 then (rec' x23 x24 x25 x26 true (IntKind.i64.wrap (x28 + 1)) (⟨x29.kind, x29.mant, x29.exp, x29.text, x29.items⟩ : Raw) x30 x31 x32 x33 x34 x35 x36 x37 x38 x39 (⟨x40.kind, x40.mant, x40.exp, x40.text, x40.items⟩ : Raw)) else (chk (decide ((0 : Int) ≤ x28) && decide (x28 < x38.length)) (rec' x23 x24 x25 x26 ((x38.getD x28.toNat (Ty.dflt .str)) == x26) (IntKind.i64.wrap (x28 + 1)) (⟨x29.kind, x29.mant, x29.exp, x29.text, x29.items⟩ : Raw) x30 x31 x32 x33 x34 x35 x36 x37 x38 x39 (⟨x40.kind, x40.mant, x40.exp, x40.text, x40.items⟩ : Raw)))) else (e0 x23 x24 x25 x26 x27 (⟨x29.kind, x29.mant, x29.exp, x29.text, x29.items⟩ : Raw) x30 x31 x32 x33 x34 x35 x36 x37 x38 x39 (⟨x40.kind, x40.mant, x40.exp, x40.text, x40.items⟩ : Raw))
noncomputable def q87_18_0_L {R : Type} : q87_18_0_ty R
  | 0, _, _, _, _, _, _, _, _, _, _, _, _, _, _, _, _, _, _, _ => none
  | n + 1, x0', x1', x2', x3', x4', x5', x6', x7', x8', x9', x10', x11', x12', x13', x14', x15', x16', x17', e0 => q87_18_0_B (fun x0' x1' x2' x3' x4' x5' x6' x7' x8' x9' x10' x11' x12' x13' x14' x15' x16' x17' => q87_18_0_L n x0' x1' x2' x3' x4' x5' x6' x7' x8' x9' x10' x11' x12' x13' x14' x15' x16' x17' e0) x0' x1' x2' x3' x4' x5' x6' x7' x8' x9' x10' x11' x12' x13' x14' x15' x16' x17' e0
noncomputable def q87_18_0_h : Hint := { live := [1, 2, 4, 5, 6, 7, 8, 9, 10, 11], own := [], rows := [], cells := [], drop := [], out := [1, 2, 4, 5, 6, 7, 8, 9, 10] }
abbrev q87_18_0_D : Type := Int × Int × Int × Str × Bool × Int × Raw × Int × Int × Int × Str × Int × Int × Int × Str × (List Str) × (List Json) × Raw
noncomputable def q87_18_0_enc : q87_18_0_D → St := fun d => ⟨[.undef, .int .i64 d.1, .ptr 0 0, .undef, .ptr 1 0, .int .i64 d.2.1, .ptr 2 0, .int .i64 d.2.2.1, .ptr 3 0, .str d.2.2.2.1, .bool d.2.2.2.2.1, .int .i64 d.2.2.2.2.2.1, .undef, .undef, .undef, .undef, .undef, .undef, .undef, .undef, .undef, .undef, .undef, .undef, .undef, .undef, .undef, .undef, .undef, .undef, .undef, .undef, .undef, .undef, .undef, .undef, .undef, .undef, .undef, .undef, .undef, .undef, .undef, .undef, .undef, .undef, .undef, .undef, .undef, .undef, .undef, .undef, .undef, .undef, .undef, .undef, .undef, .undef, .undef, .undef, .undef, .undef, .undef, .undef, .undef, .undef, .undef, .undef, .undef, .undef, .undef, .undef, .undef, .undef, .undef, .undef, .undef, .undef, .undef, .undef, .undef, .undef, .undef, .undef, .undef, .undef, .undef, .undef, .undef, .undef, .undef, .undef, .undef, .undef, .undef, .undef, .undef, .undef, .undef, .undef, .undef, .undef, .undef, .undef, .undef], [.cells [.int .i64 d.2.2.2.2.2.2.1.kind, .int .i64 d.2.2.2.2.2.2.1.mant, .int .i64 d.2.2.2.2.2.2.1.exp, .sl (.int .i64) d.2.2.2.2.2.2.1.text .no, .sl .raw d.2.2.2.2.2.2.1.items .no], .cells [.int .i64 d.2.2.2.2.2.2.2.1, .int .i64 d.2.2.2.2.2.2.2.2.1, .int .i64 d.2.2.2.2.2.2.2.2.2.1, .str d.2.2.2.2.2.2.2.2.2.2.1, .nilsl, .nilsl], .cells [.int .i64 d.2.2.2.2.2.2.2.2.2.2.2.1, .int .i64 d.2.2.2.2.2.2.2.2.2.2.2.2.1, .int .i64 d.2.2.2.2.2.2.2.2.2.2.2.2.2.1, .str d.2.2.2.2.2.2.2.2.2.2.2.2.2.2.1, .sl .str d.2.2.2.2.2.2.2.2.2.2.2.2.2.2.2.1 (.own 4), .sl .json d.2.2.2.2.2.2.2.2.2.2.2.2.2.2.2.2.1 (.own 5)], .cells [.int .i64 d.2.2.2.2.2.2.2.2.2.2.2.2.2.2.2.2.2.kind, .int .i64 d.2.2.2.2.2.2.2.2.2.2.2.2.2.2.2.2.2.mant, .int .i64 d.2.2.2.2.2.2.2.2.2.2.2.2.2.2.2.2.2.exp, .sl (.int .i64) d.2.2.2.2.2.2.2.2.2.2.2.2.2.2.2.2.2.text .no, .sl .raw d.2.2.2.2.2.2.2.2.2.2.2.2.2.2.2.2.2.items .no], .tok, .tok]⟩
noncomputable def q87_18_0_x0 {R : Type} (K : Ex → St → Option R) (q0 : Int) (q1 : Int) (q2 : Int) (q3 : Str) (q4 : Bool) (q5 : Raw) (q6 : Int) (q7 : Int) (q8 : Int) (q9 : Str) (q10 : Int) (q11 : Int) (q12 : Int) (q13 : Str) (q14 : List Str) (q15 : List Json) (q16 : Raw) : Option R := K (.exit 3) ⟨[.undef, .int .i64 q0, .ptr 0 0, .undef, .ptr 1 0, .int .i64 q1, .ptr 2 0, .int .i64 q2, .ptr 3 0, .str q3, .bool q4, .undef, .undef, .undef, .undef, .undef, .undef, .undef, .undef, .undef, .undef, .undef, .undef, .undef, .undef, .undef, .undef, .undef, .undef, .undef, .undef, .undef, .undef, .undef, .undef, .undef, .undef, .undef, .undef, .undef, .undef, .undef, .undef, .undef, .undef, .undef, .undef, .undef, .undef, .undef, .undef, .undef, .undef, .undef, .undef, .undef, .undef, .undef, .undef, .undef, .undef, .undef, .undef, .undef, .undef, .undef, .undef, .undef, .undef, .undef, .undef, .undef, .undef, .undef, .undef, .undef, .undef, .undef, .undef, .undef, .undef, .undef, .undef, .undef, .undef, .undef, .undef, .undef, .undef, .undef, .undef, .undef, .undef, .undef, .undef, .undef, .undef, .undef, .undef, .undef, .undef, .undef, .undef, .undef, .undef], [.cells [.int .i64 q5.kind, .int .i64 q5.mant, .int .i64 q5.exp, .sl (.int .i64) q5.text .no, .sl .raw q5.items .no], .cells [.int .i64 q6, .int .i64 q7, .int .i64 q8, .str q9, .nilsl, .nilsl], .cells [.int .i64 q10, .int .i64 q11, .int .i64 q12, .str q13, .sl .str q14 (.own 4), .sl .json q15 (.own 5)], .cells [.int .i64 q16.kind, .int .i64 q16.mant, .int .i64 q16.exp, .sl (.int .i64) q16.text .no, .sl .raw q16.items .no], .tok, .tok]⟩
noncomputable def q87_18_0_s {R : Type} (K : Ex → St → Option R) (rc : q87_18_0_D → Option R) (d : q87_18_0_D) : Option R := q87_18_0_B (fun z0 z1 z2 z3 z4 z5 z6 z7 z8 z9 z10 z11 z12 z13 z14 z15 z16 z17 => rc (z0, z1, z2, z3, z4, z5, z6, z7, z8, z9, z10, z11, z12, z13, z14, z15, z16, z17)) d.1 d.2.1 d.2.2.1 d.2.2.2.1 d.2.2.2.2.1 d.2.2.2.2.2.1 d.2.2.2.2.2.2.1 d.2.2.2.2.2.2.2.1 d.2.2.2.2.2.2.2.2.1 d.2.2.2.2.2.2.2.2.2.1 d.2.2.2.2.2.2.2.2.2.2.1 d.2.2.2.2.2.2.2.2.2.2.2.1 d.2.2.2.2.2.2.2.2.2.2.2.2.1 d.2.2.2.2.2.2.2.2.2.2.2.2.2.1 d.2.2.2.2.2.2.2.2.2.2.2.2.2.2.1 d.2.2.2.2.2.2.2.2.2.2.2.2.2.2.2.1 d.2.2.2.2.2.2.2.2.2.2.2.2.2.2.2.2.1 d.2.2.2.2.2.2.2.2.2.2.2.2.2.2.2.2.2 (q87_18_0_x0 K)
noncomputable def q87_18_0_A {R : Type} (K : Ex → St → Option R) (n : Nat) (d : q87_18_0_D) : Option R := q87_18_0_L n d.1 d.2.1 d.2.2.1 d.2.2.2.1 d.2.2.2.2.1 d.2.2.2.2.2.1 d.2.2.2.2.2.2.1 d.2.2.2.2.2.2.2.1 d.2.2.2.2.2.2.2.2.1 d.2.2.2.2.2.2.2.2.2.1 d.2.2.2.2.2.2.2.2.2.2.1 d.2.2.2.2.2.2.2.2.2.2.2.1 d.2.2.2.2.2.2.2.2.2.2.2.2.1 d.2.2.2.2.2.2.2.2.2.2.2.2.2.1 d.2.2.2.2.2.2.2.2.2.2.2.2.2.2.1 d.2.2.2.2.2.2.2.2.2.2.2.2.2.2.2.1 d.2.2.2.2.2.2.2.2.2.2.2.2.2.2.2.2.1 d.2.2.2.2.2.2.2.2.2.2.2.2.2.2.2.2.2 (q87_18_0_x0 K)
abbrev q87_18_0_p : List Pat := [.leaf (.undef), .leaf (.int .i64), .leaf (.ptr 0 0), .leaf (.undef), .leaf (.ptr 1 0), .leaf (.int .i64), .leaf (.ptr 2 0), .leaf (.int .i64), .leaf (.ptr 3 0), .leaf (.str), .leaf (.bool), .leaf (.int .i64), .leaf (.undef), .leaf (.undef), .leaf (.undef), .leaf (.undef), .leaf (.undef), .leaf (.undef), .leaf (.undef), .leaf (.undef), .leaf (.undef), .leaf (.undef), .leaf (.undef), .leaf (.undef), .leaf (.undef), .leaf (.undef), .leaf (.undef), .leaf (.undef), .leaf (.undef), .leaf (.undef), .leaf (.undef), .leaf (.undef), .leaf (.undef), .leaf (.undef), .leaf (.undef), .leaf (.undef), .leaf (.undef), .leaf (.undef), .leaf (.undef), .leaf (.undef), .leaf (.undef), .leaf (.undef), .leaf (.undef), .leaf (.undef), .leaf (.undef), .leaf (.undef), .leaf (.undef), .leaf (.undef), .leaf (.undef), .leaf (.undef), .leaf (.undef), .leaf (.undef), .leaf (.undef), .leaf (.undef), .leaf (.undef), .leaf (.undef), .leaf (.undef), .leaf (.undef), .leaf (.undef), .leaf (.undef), .leaf (.undef), .leaf (.undef), .leaf (.undef), .leaf (.undef), .leaf (.undef), .leaf (.undef), .leaf (.undef), .leaf (.undef), .leaf (.undef), .leaf (.undef), .leaf (.undef), .leaf (.undef), .leaf (.undef), .leaf (.undef), .leaf (.undef), .leaf (.undef), .leaf (.undef), .leaf (.undef), .leaf (.undef), .leaf (.undef), .leaf (.undef), .leaf (.undef), .leaf (.undef), .leaf (.undef), .leaf (.undef), .leaf (.undef), .leaf (.undef), .leaf (.undef), .leaf (.undef), .leaf (.undef), .leaf (.undef), .leaf (.undef), .leaf (.undef), .leaf (.undef), .leaf (.undef), .leaf (.undef), .leaf (.undef), .leaf (.undef), .leaf (.undef), .leaf (.undef), .leaf (.undef), .leaf (.undef), .leaf (.undef), .leaf (.undef), .leaf (.undef)]
abbrev q87_18_0_q : List HPat := [.cells [.int .i64, .int .i64, .int .i64, .sl (.int .i64), .sl .raw], .cells [.int .i64, .int .i64, .int .i64, .str, .nilsl, .nilsl], .cells [.int .i64, .int .i64, .int .i64, .str, .slo .str 4, .slo .json 5], .cells [.int .i64, .int .i64, .int .i64, .sl (.int .i64), .sl .raw], .tok, .tok]
noncomputable def q87_18_0_f (x : Pat.dens q87_18_0_p) (y : HPat.dens q87_18_0_q) : Nat := (Int.natAbs x.2.1 + Int.natAbs x.2.2.2.2.2.1 + Int.natAbs x.2.2.2.2.2.2.2.1 + List.length x.2.2.2.2.2.2.2.2.2.1 + Int.natAbs x.2.2.2.2.2.2.2.2.2.2.2.1 + Raw.fu (⟨y.1.1, y.1.2.1, y.1.2.2.1, y.1.2.2.2.1, y.1.2.2.2.2.1⟩ : Raw) + Int.natAbs y.2.1.1 + Int.natAbs y.2.1.2.1 + Int.natAbs y.2.1.2.2.1 + List.length y.2.1.2.2.2.1 + Int.natAbs y.2.2.1.1 + Int.natAbs y.2.2.1.2.1 + Int.natAbs y.2.2.1.2.2.1 + List.length y.2.2.1.2.2.2.1 + List.length y.2.2.1.2.2.2.2.1 + List.length y.2.2.1.2.2.2.2.2.1 + Raw.fu (⟨y.2.2.2.1.1, y.2.2.2.1.2.1, y.2.2.2.1.2.2.1, y.2.2.2.1.2.2.2.1, y.2.2.2.1.2.2.2.2.1⟩ : Raw) + 64)
noncomputable def q87_18_0_d (x : Pat.dens q87_18_0_p) (y : HPat.dens q87_18_0_q) : q87_18_0_D := (x.2.1, x.2.2.2.2.2.1, x.2.2.2.2.2.2.2.1, x.2.2.2.2.2.2.2.2.2.1, x.2.2.2.2.2.2.2.2.2.2.1, x.2.2.2.2.2.2.2.2.2.2.2.1, (⟨y.1.1, y.1.2.1, y.1.2.2.1, y.1.2.2.2.1, y.1.2.2.2.2.1⟩ : Raw), y.2.1.1, y.2.1.2.1, y.2.1.2.2.1, y.2.1.2.2.2.1, y.2.2.1.1, y.2.2.1.2.1, y.2.2.1.2.2.1, y.2.2.1.2.2.2.1, y.2.2.1.2.2.2.2.1, y.2.2.1.2.2.2.2.2.1, (⟨y.2.2.2.1.1, y.2.2.2.1.2.1, y.2.2.2.1.2.2.1, y.2.2.2.1.2.2.2.1, y.2.2.2.1.2.2.2.2.1⟩ : Raw))
noncomputable def q87_18_0_rr {R : Type} (L : q87_18_0_ty R) : Pat.dens q87_18_0_p → HPat.dens q87_18_0_q → (Ex → St → Option R) → Option R := fun x y K => L (q87_18_0_f x y) x.2.1 x.2.2.2.2.2.1 x.2.2.2.2.2.2.2.1 x.2.2.2.2.2.2.2.2.2.1 x.2.2.2.2.2.2.2.2.2.2.1 x.2.2.2.2.2.2.2.2.2.2.2.1 (⟨y.1.1, y.1.2.1, y.1.2.2.1, y.1.2.2.2.1, y.1.2.2.2.2.1⟩ : Raw) y.2.1.1 y.2.1.2.1 y.2.1.2.2.1 y.2.1.2.2.2.1 y.2.2.1.1 y.2.2.1.2.1 y.2.2.1.2.2.1 y.2.2.1.2.2.2.1 y.2.2.1.2.2.2.2.1 y.2.2.1.2.2.2.2.2.1 (⟨y.2.2.2.1.1, y.2.2.2.1.2.1, y.2.2.2.1.2.2.1, y.2.2.2.1.2.2.2.1, y.2.2.2.1.2.2.2.2.1⟩ : Raw) (q87_18_0_x0 K)
noncomputable def q87_11_0_B {R : Type} (q78 : q78_ty R) (h_q87 : q87_ty R) (q87_18_0_L : q87_18_0_ty R) (rec' : Int → Int → Int → Raw → Int → Int → Int → Str → Int → Int → Int → Str → (List Str) → (List Json) → Option R) (x7 : Int) (x8 : Int) (x9 : Int) (x10 : Raw) (x11 : Int) (x12 : Int) (x13 : Int) (x14 : Str) (x15 : Int) (x16 : Int) (x17 : Int) (x18 : Str) (x19 : List Str) (x20 : List Json) (e0 : Int → Int → Int → Str → Int → Int → Int → Str → (List Str) → (List Json) → Option R) : Option R :=
  bif (decide (x9 < (x10.items.length : Int))) then (bif (decide (x9 < (12 : Int))) then (bif (decide (x7 < (16 : Int))) then (chk (decide ((0 : Int) ≤ x9) && decide (x9 < x10.items.length)) (chk (decide ((0 : Int) ≤ (min (((x10.items.getD x9.toNat (Ty.dflt .raw)).text).length : Int) 8)) && decide ((min (((x10.items.getD x9.toNat (Ty.dflt .raw)).text).length : Int) 8) ≤ ((x10.items.getD x9.toNat (Ty.dflt .raw)).text).length)) (chk (decide ((0 : Int) ≤ (min (((x10.items.getD x9.toNat (Ty.dflt .raw)).text).length : Int) 8))) (q78 ((((x10.items.getD x9.toNat (Ty.dflt .raw)).text).drop 0).take ((min (((x10.items.getD x9.toNat (Ty.dflt .raw)).text).length : Int) 8).toNat - 0)) (fun y22 => bif (x8 == 7) then (q87_18_0_L (Int.natAbs x7 + Int.natAbs x8 + Int.natAbs x9 + List.length y22 + Int.natAbs 0 + Raw.fu (⟨x10.kind, x10.mant, x10.exp, x10.text, x10.items⟩ : Raw) + Int.natAbs x11 + Int.natAbs x12 + Int.natAbs x13 + List.length x14 + Int.natAbs x15 + Int.natAbs x16 + Int.natAbs x17 + List.length x18 + List.length x19 + List.length x20 + Raw.fu (⟨(x10.items.getD x9.toNat (Ty.dflt .raw)).kind, (x10.items.getD x9.toNat (Ty.dflt .raw)).mant, (x10.items.getD x9.toNat (Ty.dflt .raw)).exp, (x10.items.getD x9.toNat (Ty.dflt .raw)).text, (x10.items.getD x9.toNat (Ty.dflt .raw)).items⟩ : Raw) + 64) x7 x8 x9 y22 false 0 (⟨x10.kind, x10.mant, x10.exp, x10.text, x10.items⟩ : Raw) x11 x12 x13 x14 x15 x16 x17 x18 x19 x20 (⟨(x10.items.getD x9.toNat (Ty.dflt .raw)).kind, (x10.items.getD x9.toNat (Ty.dflt .raw)).mant, (x10.items.getD x9.toNat (Ty.dflt .raw)).exp, (x10.items.getD x9.toNat (Ty.dflt .raw)).text, (x10.items.getD x9.toNat (Ty.dflt .raw)).items⟩ : Raw) (fun y42 y43 y44 y45 y46 y47 y48 y49 y50 y51 y52 y53 y54 y55 y56 y57 y58 => bif y46 then (rec' y42 y43 (IntKind.i64.wrap (y44 + 1)) (⟨y47.kind, y47.mant, y47.exp, y47.text, y47.items⟩ : Raw) y48 y49 y50 y51 y52 y53 y54 y55 y56 y57) else (chk (decide ((y56.length + 1) * 16 ≤ 140737488355328)) (h_q87 (⟨y58.kind, y58.mant, y58.exp, y58.text, y58.items⟩ : Raw) (IntKind.i64.wrap (y42 + 1)) (fun y59 => chk (decide ((y57.length + 1) * 88 ≤ 140737488355328)) (rec' y42 y43 (IntKind.i64.wrap (y44 + 1)) (⟨y47.kind, y47.mant, y47.exp, y47.text, y47.items⟩ : Raw) y48 y49 y50 y51 y52 y53 y54 y55 (y56 ++ ([y45] : List Str)) (y57 ++ ([(⟨y59.kind, ⟨y59.num.mant, y59.num.exp⟩, y59.text, y59.names, y59.items⟩ : Json)] : List Json)))))))) else (h_q87 (⟨(x10.items.getD x9.toNat (Ty.dflt .raw)).kind, (x10.items.getD x9.toNat (Ty.dflt .raw)).mant, (x10.items.getD x9.toNat (Ty.dflt .raw)).exp, (x10.items.getD x9.toNat (Ty.dflt .raw)).text, (x10.items.getD x9.toNat (Ty.dflt .raw)).items⟩ : Raw) (IntKind.i64.wrap (x7 + 1)) (fun y60 => chk (decide ((x20.length + 1) * 88 ≤ 140737488355328)) (rec' x7 x8 (IntKind.i64.wrap (x9 + 1)) (⟨x10.kind, x10.mant, x10.exp, x10.text, x10.items⟩ : Raw) x11 x12 x13 x14 x15 x16 x17 x18 x19 (x20 ++ ([(⟨y60.kind, ⟨y60.num.mant, y60.num.exp⟩, y60.text, y60.names, y60.items⟩ : Json)] : List Json)))))))))) else (e0 x11 x12 x13 x14 x15 x16 x17 x18 x19 x20)) else (e0 x11 x12 x13 x14 x15 x16 x17 x18 x19 x20)) else (e0 x11 x12 x13 x14 x15 x16 x17 x18 x19 x20)
noncomputable def q87_11_0_L {R : Type} (h_q87 : q87_ty R) : q87_11_0_ty R
  | 0, _, _, _, _, _, _, _, _, _, _, _, _, _, _, _ => none
  | n + 1, x0', x1', x2', x3', x4', x5', x6', x7', x8', x9', x10', x11', x12', x13', e0 => q87_11_0_B q78 h_q87 q87_18_0_L (fun x0' x1' x2' x3' x4' x5' x6' x7' x8' x9' x10' x11' x12' x13' => q87_11_0_L h_q87 n x0' x1' x2' x3' x4' x5' x6' x7' x8' x9' x10' x11' x12' x13' e0) x0' x1' x2' x3' x4' x5' x6' x7' x8' x9' x10' x11' x12' x13' e0
noncomputable def q87_11_0_h : Hint := { live := [1, 2, 4, 5, 6, 7], own := [], rows := [], cells := [(2, 4, .str, false), (2, 5, .json, false)], drop := [], out := [4, 6] }
abbrev q87_11_0_D : Type := Int × Int × Int × Raw × Int × Int × Int × Str × Int × Int × Int × Str × (List Str) × (List Json)
noncomputable def q87_11_0_enc : q87_11_0_D → St := fun d => ⟨[.undef, .int .i64 d.1, .ptr 0 0, .undef, .ptr 1 0, .int .i64 d.2.1, .ptr 2 0, .int .i64 d.2.2.1, .undef, .undef, .undef, .undef, .undef, .undef, .undef, .undef, .undef, .undef, .undef, .undef, .undef, .undef, .undef, .undef, .undef, .undef, .undef, .undef, .undef, .undef, .undef, .undef, .undef, .undef, .undef, .undef, .undef, .undef, .undef, .undef, .undef, .undef, .undef, .undef, .undef, .undef, .undef, .undef, .undef, .undef, .undef, .undef, .undef, .undef, .undef, .undef, .undef, .undef, .undef, .undef, .undef, .undef, .undef, .undef, .undef, .undef, .undef, .undef, .undef, .undef, .undef, .undef, .undef, .undef, .undef, .undef, .undef, .undef, .undef, .undef, .undef, .undef, .undef, .undef, .undef, .undef, .undef, .undef, .undef, .undef, .undef, .undef, .undef, .undef, .undef, .undef, .undef, .undef, .undef, .undef, .undef, .undef, .undef, .undef, .undef], [.cells [.int .i64 d.2.2.2.1.kind, .int .i64 d.2.2.2.1.mant, .int .i64 d.2.2.2.1.exp, .sl (.int .i64) d.2.2.2.1.text .no, .sl .raw d.2.2.2.1.items .no], .cells [.int .i64 d.2.2.2.2.1, .int .i64 d.2.2.2.2.2.1, .int .i64 d.2.2.2.2.2.2.1, .str d.2.2.2.2.2.2.2.1, .nilsl, .nilsl], .cells [.int .i64 d.2.2.2.2.2.2.2.2.1, .int .i64 d.2.2.2.2.2.2.2.2.2.1, .int .i64 d.2.2.2.2.2.2.2.2.2.2.1, .str d.2.2.2.2.2.2.2.2.2.2.2.1, .sl .str d.2.2.2.2.2.2.2.2.2.2.2.2.1 (.own 3), .sl .json d.2.2.2.2.2.2.2.2.2.2.2.2.2 (.own 4)], .tok, .tok]⟩
noncomputable def q87_11_0_x0 {R : Type} (K : Ex → St → Option R) (q0 : Int) (q1 : Int) (q2 : Int) (q3 : Str) (q4 : Int) (q5 : Int) (q6 : Int) (q7 : Str) (q8 : List Str) (q9 : List Json) : Option R := K (.exit 1) ⟨[.undef, .undef, .undef, .undef, .ptr 0 0, .undef, .ptr 1 0, .undef, .undef, .undef, .undef, .undef, .undef, .undef, .undef, .undef, .undef, .undef, .undef, .undef, .undef, .undef, .undef, .undef, .undef, .undef, .undef, .undef, .undef, .undef, .undef, .undef, .undef, .undef, .undef, .undef, .undef, .undef, .undef, .undef, .undef, .undef, .undef, .undef, .undef, .undef, .undef, .undef, .undef, .undef, .undef, .undef, .undef, .undef, .undef, .undef, .undef, .undef, .undef, .undef, .undef, .undef, .undef, .undef, .undef, .undef, .undef, .undef, .undef, .undef, .undef, .undef, .undef, .undef, .undef, .undef, .undef, .undef, .undef, .undef, .undef, .undef, .undef, .undef, .undef, .undef, .undef, .undef, .undef, .undef, .undef, .undef, .undef, .undef, .undef, .undef, .undef, .undef, .undef, .undef, .undef, .undef, .undef, .undef, .undef], [.cells [.int .i64 q0, .int .i64 q1, .int .i64 q2, .str q3, .nilsl, .nilsl], .cells [.int .i64 q4, .int .i64 q5, .int .i64 q6, .str q7, .sl .str q8 (.own 2), .sl .json q9 (.own 3)], .tok, .tok]⟩
noncomputable def q87_11_0_s {R : Type} (q78 : q78_ty R) (h_q87 : q87_ty R) (q87_18_0_L : q87_18_0_ty R) (K : Ex → St → Option R) (rc : q87_11_0_D → Option R) (d : q87_11_0_D) : Option R := q87_11_0_B q78 h_q87 q87_18_0_L (fun z0 z1 z2 z3 z4 z5 z6 z7 z8 z9 z10 z11 z12 z13 => rc (z0, z1, z2, z3, z4, z5, z6, z7, z8, z9, z10, z11, z12, z13)) d.1 d.2.1 d.2.2.1 d.2.2.2.1 d.2.2.2.2.1 d.2.2.2.2.2.1 d.2.2.2.2.2.2.1 d.2.2.2.2.2.2.2.1 d.2.2.2.2.2.2.2.2.1 d.2.2.2.2.2.2.2.2.2.1 d.2.2.2.2.2.2.2.2.2.2.1 d.2.2.2.2.2.2.2.2.2.2.2.1 d.2.2.2.2.2.2.2.2.2.2.2.2.1 d.2.2.2.2.2.2.2.2.2.2.2.2.2 (q87_11_0_x0 K)
noncomputable def q87_11_0_A {R : Type} (h_q87 : q87_ty R) (K : Ex → St → Option R) (n : Nat) (d : q87_11_0_D) : Option R := q87_11_0_L h_q87 n d.1 d.2.1 d.2.2.1 d.2.2.2.1 d.2.2.2.2.1 d.2.2.2.2.2.1 d.2.2.2.2.2.2.1 d.2.2.2.2.2.2.2.1 d.2.2.2.2.2.2.2.2.1 d.2.2.2.2.2.2.2.2.2.1 d.2.2.2.2.2.2.2.2.2.2.1 d.2.2.2.2.2.2.2.2.2.2.2.1 d.2.2.2.2.2.2.2.2.2.2.2.2.1 d.2.2.2.2.2.2.2.2.2.2.2.2.2 (q87_11_0_x0 K)
abbrev q87_11_0_p : List Pat := [.leaf (.undef), .leaf (.int .i64), .leaf (.ptr 0 0), .leaf (.undef), .leaf (.ptr 1 0), .leaf (.int .i64), .leaf (.ptr 2 0), .leaf (.int .i64), .leaf (.undef), .leaf (.undef), .leaf (.undef), .leaf (.undef), .leaf (.undef), .leaf (.undef), .leaf (.undef), .leaf (.undef), .leaf (.undef), .leaf (.undef), .leaf (.undef), .leaf (.undef), .leaf (.undef), .leaf (.undef), .leaf (.undef), .leaf (.undef), .leaf (.undef), .leaf (.undef), .leaf (.undef), .leaf (.undef), .leaf (.undef), .leaf (.undef), .leaf (.undef), .leaf (.undef), .leaf (.undef), .leaf (.undef), .leaf (.undef), .leaf (.undef), .leaf (.undef), .leaf (.undef), .leaf (.undef), .leaf (.undef), .leaf (.undef), .leaf (.undef), .leaf (.undef), .leaf (.undef), .leaf (.undef), .leaf (.undef), .leaf (.undef), .leaf (.undef), .leaf (.undef), .leaf (.undef), .leaf (.undef), .leaf (.undef), .leaf (.undef), .leaf (.undef), .leaf (.undef), .leaf (.undef), .leaf (.undef), .leaf (.undef), .leaf (.undef), .leaf (.undef), .leaf (.undef), .leaf (.undef), .leaf (.undef), .leaf (.undef), .leaf (.undef), .leaf (.undef), .leaf (.undef), .leaf (.undef), .leaf (.undef), .leaf (.undef), .leaf (.undef), .leaf (.undef), .leaf (.undef), .leaf (.undef), .leaf (.undef), .leaf (.undef), .leaf (.undef), .leaf (.undef), .leaf (.undef), .leaf (.undef), .leaf (.undef), .leaf (.undef), .leaf (.undef), .leaf (.undef), .leaf (.undef), .leaf (.undef), .leaf (.undef), .leaf (.undef), .leaf (.undef), .leaf (.undef), .leaf (.undef), .leaf (.undef), .leaf (.undef), .leaf (.undef), .leaf (.undef), .leaf (.undef), .leaf (.undef), .leaf (.undef), .leaf (.undef), .leaf (.undef), .leaf (.undef), .leaf (.undef), .leaf (.undef), .leaf (.undef), .leaf (.undef)]
abbrev q87_11_0_q : List HPat := [.cells [.int .i64, .int .i64, .int .i64, .sl (.int .i64), .sl .raw], .cells [.int .i64, .int .i64, .int .i64, .str, .nilsl, .nilsl], .cells [.int .i64, .int .i64, .int .i64, .str, .slo .str 3, .slo .json 4], .tok, .tok]
noncomputable def q87_11_0_f (x : Pat.dens q87_11_0_p) (y : HPat.dens q87_11_0_q) : Nat := (Int.natAbs x.2.1 + Int.natAbs x.2.2.2.2.2.1 + Int.natAbs x.2.2.2.2.2.2.2.1 + Raw.fu (⟨y.1.1, y.1.2.1, y.1.2.2.1, y.1.2.2.2.1, y.1.2.2.2.2.1⟩ : Raw) + Int.natAbs y.2.1.1 + Int.natAbs y.2.1.2.1 + Int.natAbs y.2.1.2.2.1 + List.length y.2.1.2.2.2.1 + Int.natAbs y.2.2.1.1 + Int.natAbs y.2.2.1.2.1 + Int.natAbs y.2.2.1.2.2.1 + List.length y.2.2.1.2.2.2.1 + List.length y.2.2.1.2.2.2.2.1 + List.length y.2.2.1.2.2.2.2.2.1 + 64)
noncomputable def q87_11_0_d (x : Pat.dens q87_11_0_p) (y : HPat.dens q87_11_0_q) : q87_11_0_D := (x.2.1, x.2.2.2.2.2.1, x.2.2.2.2.2.2.2.1, (⟨y.1.1, y.1.2.1, y.1.2.2.1, y.1.2.2.2.1, y.1.2.2.2.2.1⟩ : Raw), y.2.1.1, y.2.1.2.1, y.2.1.2.2.1, y.2.1.2.2.2.1, y.2.2.1.1, y.2.2.1.2.1, y.2.2.1.2.2.1, y.2.2.1.2.2.2.1, y.2.2.1.2.2.2.2.1, y.2.2.1.2.2.2.2.2.1)
noncomputable def q87_11_0_rr {R : Type} (L : q87_11_0_ty R) : Pat.dens q87_11_0_p → HPat.dens q87_11_0_q → (Ex → St → Option R) → Option R := fun x y K => L (q87_11_0_f x y) x.2.1 x.2.2.2.2.2.1 x.2.2.2.2.2.2.2.1 (⟨y.1.1, y.1.2.1, y.1.2.2.1, y.1.2.2.2.1, y.1.2.2.2.2.1⟩ : Raw) y.2.1.1 y.2.1.2.1 y.2.1.2.2.1 y.2.1.2.2.2.1 y.2.2.1.1 y.2.2.1.2.1 y.2.2.1.2.2.1 y.2.2.1.2.2.2.1 y.2.2.1.2.2.2.2.1 y.2.2.1.2.2.2.2.2.1 (q87_11_0_x0 K)
noncomputable def q87_T (R : Type) (q87_18_0_L : q87_18_0_ty R) (q87_11_0_L : q87_11_0_ty R) : Nat → Option (Hint × LSpec R) := fun i => match i with
  | 11 => some (q87_11_0_h, (loopBy q87_11_0_p q87_11_0_q (q87_11_0_rr q87_11_0_L) loopNo))
  | 18 => some (q87_18_0_h, (loopBy q87_18_0_p q87_18_0_q (q87_18_0_rr q87_18_0_L) loopNo))
  | _ => none
theorem q87_18_0_B_ok {R : Type} (q78 : q78_ty R) (q85 : q85_ty R) (h_q87 : q87_ty R) (q79 : q79_ty R) (q87_18_0_L : q87_18_0_ty R) (q87_11_0_L : q87_11_0_ty R) (K : Ex → St → Option R) (rc : St → Option R) (d : q87_18_0_D) : roundOf tt (q87_E R q78 q85 h_q87 q79) (q87_T R q87_18_0_L q87_11_0_L) 0 ((loopsOf (codeOf Tryz.f16)).getD 1 .skip) q87_18_0_h (q87_18_0_enc d) rc K = q87_18_0_s K (fun d => rc (q87_18_0_enc d)) d := by kernel_rfl
theorem q87_18_0_A_succ {R : Type} (K : Ex → St → Option R) (n : Nat) (d : q87_18_0_D) : q87_18_0_A K (n + 1) d = q87_18_0_s K (q87_18_0_A K n) d := by kernel_rfl
theorem q87_18_0_A_zero {R : Type} (K : Ex → St → Option R) (d : q87_18_0_D) : q87_18_0_A K 0 d = none := by kernel_rfl
theorem q87_18_0_e_ok (x : Pat.dens q87_18_0_p) (y : HPat.dens q87_18_0_q) : (⟨Pat.encL q87_18_0_p x, HPat.encL q87_18_0_q y⟩ : St) = q87_18_0_enc (q87_18_0_d x y) := by kernel_rfl
theorem q87_18_0_r_ok {R : Type} (x : Pat.dens q87_18_0_p) (y : HPat.dens q87_18_0_q) (K : Ex → St → Option R) : q87_18_0_rr (q87_18_0_L) x y K = q87_18_0_A K (q87_18_0_f x y) (q87_18_0_d x y) := by kernel_rfl
theorem q87_18_0_ok {R : Type} (h_q87 : q87_ty R) (other : LSpec R) (ho : LsOk tt (q87_E R q78 q85 h_q87 q79) (q87_T R q87_18_0_L (q87_11_0_L h_q87)) 0 ((loopsOf (codeOf Tryz.f16)).getD 1 .skip) q87_18_0_h other) : LsOk tt (q87_E R q78 q85 h_q87 q79) (q87_T R q87_18_0_L (q87_11_0_L h_q87)) 0 ((loopsOf (codeOf Tryz.f16)).getD 1 .skip) q87_18_0_h (loopBy q87_18_0_p q87_18_0_q (q87_18_0_rr (q87_18_0_L)) other) :=
  loopBy_tie (A := q87_18_0_A) ho (loop_tie q87_18_0_enc (q87_18_0_s) (q87_18_0_A) (q87_18_0_A_zero) (q87_18_0_B_ok q78 q85 h_q87 q79 q87_18_0_L (q87_11_0_L h_q87)) (q87_18_0_A_succ)) q87_18_0_f q87_18_0_d q87_18_0_e_ok (q87_18_0_r_ok)
theorem q87_11_0_B_ok {R : Type} (q78 : q78_ty R) (q85 : q85_ty R) (h_q87 : q87_ty R) (q79 : q79_ty R) (q87_18_0_L : q87_18_0_ty R) (q87_11_0_L : q87_11_0_ty R) (K : Ex → St → Option R) (rc : St → Option R) (d : q87_11_0_D) : roundOf tt (q87_E R q78 q85 h_q87 q79) (q87_T R q87_18_0_L q87_11_0_L) 0 ((loopsOf (codeOf Tryz.f16)).getD 0 .skip) q87_11_0_h (q87_11_0_enc d) rc K = q87_11_0_s q78 h_q87 q87_18_0_L K (fun d => rc (q87_11_0_enc d)) d := by kernel_rfl
theorem q87_11_0_A_succ {R : Type} (h_q87 : q87_ty R) (K : Ex → St → Option R) (n : Nat) (d : q87_11_0_D) : q87_11_0_A h_q87 K (n + 1) d = q87_11_0_s q78 h_q87 q87_18_0_L K (q87_11_0_A h_q87 K n) d := by kernel_rfl
theorem q87_11_0_A_zero {R : Type} (h_q87 : q87_ty R) (K : Ex → St → Option R) (d : q87_11_0_D) : q87_11_0_A h_q87 K 0 d = none := by kernel_rfl
theorem q87_11_0_e_ok (x : Pat.dens q87_11_0_p) (y : HPat.dens q87_11_0_q) : (⟨Pat.encL q87_11_0_p x, HPat.encL q87_11_0_q y⟩ : St) = q87_11_0_enc (q87_11_0_d x y) := by kernel_rfl
theorem q87_11_0_r_ok {R : Type} (h_q87 : q87_ty R) (x : Pat.dens q87_11_0_p) (y : HPat.dens q87_11_0_q) (K : Ex → St → Option R) : q87_11_0_rr (q87_11_0_L h_q87) x y K = q87_11_0_A h_q87 K (q87_11_0_f x y) (q87_11_0_d x y) := by kernel_rfl
theorem q87_11_0_ok {R : Type} (h_q87 : q87_ty R) (other : LSpec R) (ho : LsOk tt (q87_E R q78 q85 h_q87 q79) (q87_T R q87_18_0_L (q87_11_0_L h_q87)) 0 ((loopsOf (codeOf Tryz.f16)).getD 0 .skip) q87_11_0_h other) : LsOk tt (q87_E R q78 q85 h_q87 q79) (q87_T R q87_18_0_L (q87_11_0_L h_q87)) 0 ((loopsOf (codeOf Tryz.f16)).getD 0 .skip) q87_11_0_h (loopBy q87_11_0_p q87_11_0_q (q87_11_0_rr (q87_11_0_L h_q87)) other) :=
  loopBy_tie (A := q87_11_0_A h_q87) ho (loop_tie q87_11_0_enc (q87_11_0_s q78 h_q87 q87_18_0_L) (q87_11_0_A h_q87) (q87_11_0_A_zero h_q87) (q87_11_0_B_ok q78 q85 h_q87 q79 q87_18_0_L (q87_11_0_L h_q87)) (q87_11_0_A_succ h_q87)) q87_11_0_f q87_11_0_d q87_11_0_e_ok (q87_11_0_r_ok h_q87)
noncomputable def q87_X {R : Type} (q78 : q78_ty R) (q85 : q85_ty R) (q79 : q79_ty R) (q87_11_0_L : q87_11_0_ty R) (x1 : Raw) (x2 : Int) (k0 : Json → Option R) : Option R :=
  q79 x1.kind 7 (fun y3 => bif ((IntKind.i64.wrap (1 + y3)) == 4) then (q85 x1.mant x1.exp (fun y4 => k0 (⟨(IntKind.i64.wrap (1 + y3)), ⟨y4.mant, y4.exp⟩, ([] : Str), ([] : List Str), ([] : List Json)⟩ : Json))) else (bif ((IntKind.i64.wrap (1 + y3)) == 5) then (chk (decide ((0 : Int) ≤ (min (x1.text.length : Int) 20)) && decide ((min (x1.text.length : Int) 20) ≤ x1.text.length)) (chk (decide ((0 : Int) ≤ (min (x1.text.length : Int) 20))) (q78 ((x1.text.drop 0).take ((min (x1.text.length : Int) 20).toNat - 0)) (fun y5 => k0 (⟨(IntKind.i64.wrap (1 + y3)), ⟨0, 0⟩, y5, ([] : List Str), ([] : List Json)⟩ : Json))))) else (let j71 := fun (z6 : Bool) => bif z6 then (q87_11_0_L (Int.natAbs x2 + Int.natAbs (IntKind.i64.wrap (1 + y3)) + Int.natAbs 0 + Raw.fu (⟨x1.kind, x1.mant, x1.exp, x1.text, x1.items⟩ : Raw) + Int.natAbs 0 + Int.natAbs 0 + Int.natAbs 0 + List.length ([] : Str) + Int.natAbs (IntKind.i64.wrap (1 + y3)) + Int.natAbs 0 + Int.natAbs 0 + List.length ([] : Str) + List.length ([] : List Str) + List.length ([] : List Json) + 64) x2 (IntKind.i64.wrap (1 + y3)) 0 (⟨x1.kind, x1.mant, x1.exp, x1.text, x1.items⟩ : Raw) 0 0 0 ([] : Str) (IntKind.i64.wrap (1 + y3)) 0 0 ([] : Str) ([] : List Str) ([] : List Json) (fun y61 y62 y63 y64 y65 y66 y67 y68 y69 y70 => k0 (⟨y65, ⟨y66, y67⟩, y68, y69, y70⟩ : Json))) else (k0 (⟨(IntKind.i64.wrap (1 + y3)), ⟨0, 0⟩, ([] : Str), ([] : List Str), ([] : List Json)⟩ : Json)); bif ((IntKind.i64.wrap (1 + y3)) == 6) then (j71 ((IntKind.i64.wrap (1 + y3)) == 6)) else (j71 ((IntKind.i64.wrap (1 + y3)) == 7)))))
noncomputable def q87_B {R : Type} (h_q87 : q87_ty R) : q87_ty R := fun x1 x2 k0 => q87_X q78 q85 q79 (q87_11_0_L h_q87) x1 x2 k0
theorem q87_ok {R : Type} (q78 : q78_ty R) (q85 : q85_ty R) (h_q87 : q87_ty R) (q79 : q79_ty R) (q87_18_0_L : q87_18_0_ty R) (q87_11_0_L : q87_11_0_ty R) (x1 : Raw) (x2 : Int) (k : V → Heap → Option R) : funK tt (q87_E R q78 q85 h_q87 q79) (q87_T R q87_18_0_L q87_11_0_L) false Tryz.f16 (codeOf Tryz.f16) [.agg [.int .i64 x1.kind, .int .i64 x1.mant, .int .i64 x1.exp, .sl (.int .i64) x1.text .no, .sl .raw x1.items .no], .int .i64 x2] [] k =
    q87_X q78 q85 q79 q87_11_0_L x1 x2 (fun q0 => k (.agg [.int .i64 q0.kind, .int .i64 q0.num.mant, .int .i64 q0.num.exp, .str q0.text, .sl .str q0.names .no, .sl .json q0.items .no]) []) := by kernel_rfl
theorem q87_loops (R : Type) (h_q87 : q87_ty R) : ∀ a ∈ loopsOf (codeOf Tryz.f16), LoopOk tt (q87_E R q78 q85 h_q87 q79) (q87_T R q87_18_0_L (q87_11_0_L h_q87)) 0 a := by
  refine loops_ok 2 (by kernel_rfl) fun i hi => ?_
  match i, hi with
  | 0, _ => exact loopOk_some (by kernel_rfl) (q87_11_0_ok h_q87 _ loopNo_ok)
  | 1, _ => exact loopOk_some (by kernel_rfl) (q87_18_0_ok h_q87 _ loopNo_ok)
  | n + 2, hi => omega
theorem q87_S_okB (R : Type) (h_q87 : q87_ty R) (y_q87 : Yard.Spec.Ok Tryz.prog 16 (specBy q87_p q87_q (q87_rr h_q87) specNo)) (other : Yard.Spec R) (ho : Yard.Spec.Ok Tryz.prog 16 other) : Yard.Spec.Ok Tryz.prog 16 (specBy q87_p q87_q (q87_rr (q87_B h_q87)) other) :=
  specBy_ok ho (funK_sound TT mixed (q87_EOk R h_q87 y_q87) (keep := false) rfl rfl rfl rfl 0 (q87_loops R h_q87)) fun (x : Pat.dens q87_p) (y : HPat.dens q87_q) k => q87_ok q78 q85 h_q87 q79 q87_18_0_L (q87_11_0_L h_q87) (⟨x.1.1, x.1.2.1, x.1.2.2.1, x.1.2.2.2.1, x.1.2.2.2.2.1⟩ : Raw) x.2.1 k
noncomputable def q87_N {R : Type} : Nat → q87_ty R
  | 0, _, _, _ => none
  | n + 1, x0', x1', k0' => q87_B (q87_N n) x0' x1' k0'
theorem q87_N_succ {R : Type} (n : Nat) : q87_N (R := R) (n + 1) = q87_B (q87_N n) := by kernel_rfl
theorem q87_N_ok (R : Type) : ∀ n, Yard.Spec.Ok Tryz.prog 16 (specBy q87_p q87_q (q87_rr (q87_N (R := R) n)) specNo) :=
  specBy_fuel (run := fun n => q87_rr (q87_N (R := R) n)) (fun x y k => by kernel_rfl) fun n hyp => q87_S_okB R (q87_N n) hyp specNo (specNo_ok _)
noncomputable def q87 {R : Type} : q87_ty R := fun x1 x2 k0 => q87_N (Raw.depth x1 + 2) x1 x2 k0
theorem q87_r_ok (R : Type) : q87_rr (R := R) q87 = fun x y k => q87_rr (q87_N (Raw.depth (⟨x.1.1, x.1.2.1, x.1.2.2.1, x.1.2.2.2.1, x.1.2.2.2.2.1⟩ : Raw) + 2)) x y k := by kernel_rfl
theorem q87_S_ok (R : Type) (other : Yard.Spec R) (ho : Yard.Spec.Ok Tryz.prog 16 other) : Yard.Spec.Ok Tryz.prog 16 (specBy q87_p q87_q (q87_rr q87) other) :=
  specBy_run (specBy_at (run := fun n => q87_rr (q87_N (R := R) n)) (fun x y => (Raw.depth (⟨x.1.1, x.1.2.1, x.1.2.2.1, x.1.2.2.2.1, x.1.2.2.2.2.1⟩ : Raw) + 2)) ho (q87_N_ok R)) (q87_r_ok R)
end Go.Proofs.YtmlkkgfenfdndaaGreatDoor
set_option maxRecDepth 100000
namespace Go.Proofs.YtmlkkgfenfdndaaGreatDoor
open Go Go.Yard Go.Lib
mutual
def Raw.tot : Raw → Nat
  | ⟨_, _, _, _, is⟩ => Raw.totL is + 1
def Raw.totL : List Raw → Nat
  | [] => 0
  | x :: l => Raw.tot x + Raw.totL l
end
mutual
def Raw.ok : Raw → Prop
  | ⟨k, m, e, t, is⟩ => (I64 k ∧ I64 m ∧ I64 e ∧ ∀ c ∈ t, I64 c) ∧ (t.length ≤ 1048576 ∧ is.length ≤ 1048576) ∧ Raw.okL is
def Raw.okL : List Raw → Prop
  | [] => True
  | x :: l => Raw.ok x ∧ Raw.okL l
end
theorem wtll_len {T : Ty} : ∀ (l : List T.den) (m : Nat), WtLL m (l.map T.cells) → (∀ (x : T.den) n, WtL n (T.cells x) → 1 ≤ n) → l.length ≤ m
  | [], _, _, _ => Nat.zero_le _
  | x :: l, _, .cons h t, hh => by
    have h1 := hh x _ h
    have h2 := wtll_len l _ t hh
    simp only [List.length_cons]
    omega
theorem wt_pos {n : Nat} {v : V} (h : Wt n v) : 1 ≤ n := by
  cases h <;> omega
theorem wt_ints : ∀ (l : List (Ty.den (.int .i64))) (m : Nat), WtLL m (l.map (Ty.cells (.int .i64))) → ∀ c ∈ (l : List Int), I64 c
  | [], _, _, c, hc => by cases hc
  | x :: l, _, .cons h t, c, hc => by
    rcases List.mem_cons.1 hc with rfl | hc
    · have h' : WtL _ [V.int .i64 c] := h
      cases h' with
      | cons a b => cases a with | int _ hk => exact i64_has.1 hk
    · exact wt_ints l _ t c hc
mutual
theorem wt_raw : ∀ (x : Raw) (n : Nat), n ≤ 1048576 → WtL n (Ty.cells .raw x) → Raw.tot x ≤ n ∧ Raw.ok x
  | ⟨k, m, e, t, is⟩, n, hn, h => by
    have hL := wt_rawL is
    have h' : WtL n [.int .i64 k, .int .i64 m, .int .i64 e, .sl (.int .i64) t .no, .sl .raw is .no] := h
    cases h' with
    | cons a1 h' => cases h' with
      | cons a2 h' => cases h' with
        | cons a3 h' => cases h' with
          | cons a4 h' => cases h' with
            | cons a5 h' =>
              cases h'
              cases a1 with | int p1 k1 =>
              cases a2 with | int p2 k2 =>
              cases a3 with | int p3 k3 =>
              cases a4 with | sl p4 w4 =>
              cases a5 with | sl p5 w5 =>
              have hl4 := wtll_len (T := .int .i64) t _ w4 (fun x n h => by
                have h' : WtL n [V.int .i64 x] := h
                cases h' with | cons a b => have := wt_pos a; omega)
              have hl5 := wtll_len (T := .raw) is _ w5 (fun x n h => by
                have h' : WtL n (.int .i64 x.kind :: _) := h
                cases h' with | cons a b => have := wt_pos a; omega)
              obtain ⟨g1, g2⟩ := hL _ (by omega) w5
              refine ⟨by simp only [Raw.tot]; omega, ⟨i64_has.1 k1, i64_has.1 k2, i64_has.1 k3, wt_ints t _ w4⟩, ⟨Nat.le_trans hl4 (by omega), Nat.le_trans hl5 (by omega)⟩, g2⟩
theorem wt_rawL : ∀ (l : List Raw) (n : Nat), n ≤ 1048576 → WtLL n (l.map (Ty.cells .raw)) → Raw.totL l ≤ n ∧ Raw.okL l
  | [], _, _, _ => ⟨Nat.zero_le _, trivial⟩
  | x :: l, _, hn, .cons h t => by
    obtain ⟨a1, a2⟩ := wt_raw x _ (by omega) h
    obtain ⟨b1, b2⟩ := wt_rawL l _ (by omega) t
    exact ⟨by simp only [Raw.totL]; omega, a2, b2⟩
end
theorem okL_mem : ∀ {l : List Raw} {x : Raw}, Raw.okL l → x ∈ l → Raw.ok x
  | y :: l, x, h, hx => by
    rcases List.mem_cons.1 hx with rfl | hx
    · exact h.1
    · exact okL_mem h.2 hx
theorem rdepth_mem {l : List Raw} {y : Raw} (h : y ∈ l) : y.depth ≤ Raw.depthL l := by
  induction l with
  | nil => cases h
  | cons a l ih =>
    simp only [Raw.depthL]
    rcases List.mem_cons.1 h with rfl | h
    · exact Nat.le_max_left _ _
    · exact Nat.le_trans (ih h) (Nat.le_max_right _ _)
theorem rdepth_item {x y : Raw} (h : y ∈ x.items) : y.depth < x.depth := by
  have : x.depth = Raw.depthL x.items + 1 := by cases x; simp [Raw.depth]
  rw [this]
  exact Nat.lt_succ_of_le (rdepth_mem h)
theorem uniq_end : ∀ (ns seen : List Str) (n : Str), uniqN seen (ns ++ [n]) = (uniqN seen ns && ((!(seen.contains n || ns.contains n)) && validS n))
  | [], seen, n => by simp [uniqN]
  | m :: ns, seen, n => by
    simp only [List.cons_append, uniqN, uniq_end ns (m :: seen) n, List.contains_cons]
    cases seen.contains m <;> cases validS m <;> cases uniqN (m :: seen) ns <;> cases n == m <;> cases seen.contains n <;> rfl
theorem qtS_len (t : Str) : (qtS t).length ≤ 6 * t.length + 2 := by
  unfold qtS
  have : ∀ l : Str, (l.flatMap qb).length ≤ 6 * l.length := by
    intro l
    induction l with
    | nil => simp
    | cons b l ih =>
      have := qb_len b
      simp only [List.flatMap_cons, List.length_append, List.length_cons]
      omega
  have := this t
  simp only [List.length_cons, List.length_append, List.length_nil]
  omega
theorem fit_seen {R : Type} (d q i : Int) (y : Str) (raw : Raw) (a1 a2 a3 : Int) (a4 : Str) (b1 b2 b3 : Int) (b4 : Str) (ns : List Str) (hl : ns.length ≤ 1000000) (is : List Json) (ri : Raw) (e0) : ∀ (F j : Nat) (b : Bool), j ≤ ns.length → ns.length - j < F →
    q87_18_0_L (R := R) F d q i y b (j : Int) raw a1 a2 a3 a4 b1 b2 b3 b4 ns is ri e0 = e0 d q i y (b || (ns.drop j).contains y) raw a1 a2 a3 a4 b1 b2 b3 b4 ns is ri := by
  intro F
  induction F with
  | zero => intro j b _ h; omega
  | succ F ih =>
    intro j b hj hF
    show q87_18_0_B (fun x0' x1' x2' x3' x4' x5' x6' x7' x8' x9' x10' x11' x12' x13' x14' x15' x16' x17' => q87_18_0_L F x0' x1' x2' x3' x4' x5' x6' x7' x8' x9' x10' x11' x12' x13' x14' x15' x16' x17' e0) d q i y b (j : Int) raw a1 a2 a3 a4 b1 b2 b3 b4 ns is ri e0 = _
    unfold q87_18_0_B
    simp only [Raw.eta]
    by_cases h : j < ns.length
    · have h1 : decide ((j : Int) < (ns.length : Int)) = true := by simp; omega
      have h2 : (decide ((0 : Int) ≤ (j : Int)) && true) = true := by simp
      have hw : IntKind.i64.wrap ((j : Int) + 1) = ((j + 1 : Nat) : Int) := by rw [wrap_id (by omega) (by omega)]; omega
      have hg : ns.getD (j : Int).toNat (Ty.dflt .str) = ns[j] := getD_at h _
      rw [h1, cond_true, chk_pos h2, hg, hw, List.drop_eq_getElem_cons h, List.contains_cons]
      cases b with
      | true =>
        rw [cond_true, ih (j + 1) true (by omega) (by omega)]
        rfl
      | false =>
        rw [cond_false, ih (j + 1) _ (by omega) (by omega), Bool.false_or]
        have : (ns[j] == y) = (y == ns[j]) := by rw [Bool.eq_iff_iff, beq_iff_eq, beq_iff_eq]; exact eq_comm
        rw [this]
    · have h1 : decide ((j : Int) < (ns.length : Int)) = false := by simp; omega
      rw [h1, cond_false, List.drop_eq_nil_of_le (by omega), List.contains_nil, Bool.or_false]
structure FitV (R : Type) (v : Json) (d : Int) (n : Nat) : Prop where
  right : rightJ v d = true
  len : lenJ v = true
  size : (printJ v).length + 5000 ≤ 10000 * n
theorem printL_end : ∀ (l : List Json) (x : Json) (b : Bool), (printL (l ++ [x]) b).length ≤ (printL l b).length + 1 + (printJ x).length
  | [], x, b => by cases b <;> simp [printL] <;> omega
  | y :: l, x, b => by
    have := printL_end l x false
    simp only [List.cons_append, printL, List.length_append]
    omega
theorem printO_end : ∀ (ns : List Str) (l : List Json) (n : Str) (x : Json) (b : Bool), ns.length = l.length → (printO (ns ++ [n]) (l ++ [x]) b).length ≤ (printO ns l b).length + 2 + (qtS n).length + (printJ x).length
  | [], [], n, x, b, _ => by cases b <;> simp [printO] <;> omega
  | m :: ns, y :: l, n, x, b, h => by
    have := printO_end ns l n x false (by simpa using h)
    simp only [List.cons_append, printO, List.headD_cons, List.tail_cons, List.length_append, List.length_cons]
    omega
  | [], _ :: _, _, _, _, h => by cases h
  | _ :: _, [], _, _, _, h => by cases h
theorem rightL_end : ∀ (l : List Json) (x : Json) (d : Int), rightL (l ++ [x]) d = (rightL l d && rightJ x d)
  | [], x, d => by simp [rightL]
  | y :: l, x, d => by simp only [List.cons_append, rightL, rightL_end l x d, Bool.and_assoc]
theorem lenL_end : ∀ (l : List Json) (x : Json), lenL (l ++ [x]) = (lenL l && lenJ x)
  | [], x => by simp [lenL]
  | y :: l, x => by simp only [List.cons_append, lenL, lenL_end l x, Bool.and_assoc]
theorem totL_take (l : List Raw) (i : Nat) (h : i < l.length) : Raw.totL (l.take (i + 1)) = Raw.totL (l.take i) + Raw.tot l[i] := by
  induction l generalizing i with
  | nil => cases h
  | cons y l ih =>
    cases i with
    | zero => simp [Raw.totL]
    | succ i =>
      have := ih i (by simpa using h)
      simp only [List.take_succ_cons, Raw.totL, List.getElem_cons_succ]
      omega
theorem totL_take_le (l : List Raw) (i : Nat) : Raw.totL (l.take i) ≤ Raw.totL l := by
  induction l generalizing i with
  | nil => simp
  | cons y l ih =>
    cases i with
    | zero => simp [Raw.totL]
    | succ i =>
      have := ih i
      simp only [List.take_succ_cons, Raw.totL]
      omega
structure Held (q : Int) (d : Int) (ns : List Str) (is : List Json) (n : Nat) : Prop where
  right : rightL is (d + 1) = true
  len : lenL is = true
  count : is.length ≤ 12
  names : (q = 7 ∧ ns.length = is.length ∧ uniqN [] ns = true ∧ (∀ t ∈ ns, t.length ≤ 1000) ∧ (printO ns is true).length ≤ 10000 * n) ∨ (q = 6 ∧ ns = [] ∧ (printL is true).length ≤ 10000 * n)
theorem Held.fit {R : Type} {q d : Int} (hd : d ≤ 16) {ns : List Str} {is : List Json} {n m : Nat} (h : Held q d ns is n) (hn : n ≤ m) : FitV R ⟨q, ⟨0, 0⟩, [], ns, is⟩ d (m + 1) := by
  obtain ⟨h1, h2, h3, h4⟩ := h
  rcases h4 with ⟨rfl, g1, g2, g3, g4⟩ | ⟨rfl, rfl, g4⟩
  · refine ⟨rightJ_iff.2 (.obj ns is d hd g1 g2 h1), lenJ_iff.2 ⟨by simp only; omega, by simp only; omega, h2, by simp, fun t ht => by have := g3 t ht; omega⟩, ?_⟩
    show (123 :: (printO ns is true ++ [125]) : Str).length + 5000 ≤ _
    simp only [List.length_cons, List.length_append, List.length_nil]
    omega
  · refine ⟨rightJ_iff.2 (.arr is d hd h1), lenJ_iff.2 ⟨by simp, by simp only; omega, h2, by simp, by simp⟩, ?_⟩
    show (91 :: (printL is true ++ [93]) : Str).length + 5000 ≤ _
    simp only [List.length_cons, List.length_append, List.length_nil]
    omega
end Go.Proofs.YtmlkkgfenfdndaaGreatDoor
/-
  Functions of the program as pure Lean functions, and the ties; printed by wip/tools/emit.py.
-/
set_option maxRecDepth 100000
namespace Go.Proofs.YtmlkkgfenfdndaaGreatDoor
open Go Go.Yard
/-! ### humpyard/humpyardlaw04.JsonApart -/
abbrev q60_ty (R : Type) : Type := Raw → Raw → (Bool → Option R) → Option R
abbrev q60_p : List Pat := [.agg [.int .i64, .int .i64, .int .i64, .sl (.int .i64), .sl .raw], .agg [.int .i64, .int .i64, .int .i64, .sl (.int .i64), .sl .raw]]
abbrev q60_q : List HPat := []
noncomputable def q60_rr {R : Type} (fn : q60_ty R) : Pat.dens q60_p → HPat.dens q60_q → (V → Heap → Option R) → Option R := fun x y k => fn (⟨x.1.1, x.1.2.1, x.1.2.2.1, x.1.2.2.2.1, x.1.2.2.2.2.1⟩ : Raw) (⟨x.2.1.1, x.2.1.2.1, x.2.1.2.2.1, x.2.1.2.2.2.1, x.2.1.2.2.2.2.1⟩ : Raw) (fun q0 => k (.bool q0) [])
noncomputable def q60_E (R : Type) (q87 : q87_ty R) (q67 : q67_ty R) (q77 : q77_ty R) (q84 : q84_ty R) : Env R := fun i => match i with
  | 16 => some (true, (specBy q87_p q87_q (q87_rr q87) specNo))
  | 30 => some (true, (specBy q67_p q67_q (q67_rr q67) specNo))
  | 17 => some (true, (specBy q77_p q77_q (q77_rr q77) specNo))
  | 21 => some (true, (specBy q84_p q84_q (q84_rr q84) specNo))
  | _ => none
theorem q60_EOk (R : Type) : EOk Tryz.prog (q60_E R q87 q67 q77 q84) := by
  intro i b sp h
  unfold q60_E at h
  split at h
  · cases h; exact ⟨(q87_S_ok R _ (specNo_ok _)), fun h => nomatch h⟩
  · cases h; exact ⟨(q67_S_ok R _ (specNo_ok _)), fun h => nomatch h⟩
  · cases h; exact ⟨(q77_S_ok R _ (specNo_ok _)), fun h => nomatch h⟩
  · cases h; exact ⟨(q84_S_ok R _ (specNo_ok _)), fun h => nomatch h⟩
  · cases h
noncomputable def q60_T (R : Type) : Nat → Option (Hint × LSpec R) := fun i => match i with
  | _ => none
noncomputable def q60_X {R : Type} (q87 : q87_ty R) (q67 : q67_ty R) (q77 : q77_ty R) (q84 : q84_ty R) (x1 : Raw) (x2 : Raw) (k0 : Bool → Option R) : Option R :=
  q67 (fun y3 => q87 (⟨x1.kind, x1.mant, x1.exp, x1.text, x1.items⟩ : Raw) 1 (fun y4 => q87 (⟨x2.kind, x2.mant, x2.exp, x2.text, x2.items⟩ : Raw) 1 (fun y5 => bif y3 then (q77 (⟨y4.kind, ⟨y4.num.mant, y4.num.exp⟩, y4.text, y4.names, y4.items⟩ : Json) (fun y6 => bif (!(y6 == ([] : Str))) then (q77 (⟨y4.kind, ⟨y4.num.mant, y4.num.exp⟩, y4.text, y4.names, y4.items⟩ : Json) (fun y7 => q77 (⟨y5.kind, ⟨y5.num.mant, y5.num.exp⟩, y5.text, y5.names, y5.items⟩ : Json) (fun y8 => q84 (⟨y4.kind, ⟨y4.num.mant, y4.num.exp⟩, y4.text, y4.names, y4.items⟩ : Json) (⟨y5.kind, ⟨y5.num.mant, y5.num.exp⟩, y5.text, y5.names, y5.items⟩ : Json) (fun y9 => k0 ((y7 == y8) == y9))))) else (k0 false))) else (k0 false))))
noncomputable def q60 {R : Type} : q60_ty R := fun x1 x2 k0 => q60_X q87 q67 q77 q84 x1 x2 k0
theorem q60_ok {R : Type} (q87 : q87_ty R) (q67 : q67_ty R) (q77 : q77_ty R) (q84 : q84_ty R) (x1 : Raw) (x2 : Raw) (k : V → Heap → Option R) : funK tt (q60_E R q87 q67 q77 q84) (q60_T R) false Tryz.f12 (codeOf Tryz.f12) [.agg [.int .i64 x1.kind, .int .i64 x1.mant, .int .i64 x1.exp, .sl (.int .i64) x1.text .no, .sl .raw x1.items .no], .agg [.int .i64 x2.kind, .int .i64 x2.mant, .int .i64 x2.exp, .sl (.int .i64) x2.text .no, .sl .raw x2.items .no]] [] k =
    q60_X q87 q67 q77 q84 x1 x2 (fun q0 => k (.bool q0) []) := by kernel_rfl
theorem q60_loops (R : Type) : ∀ a ∈ loopsOf (codeOf Tryz.f12), LoopOk tt (q60_E R q87 q67 q77 q84) (q60_T R) 0 a := by
  refine loops_ok 0 (by kernel_rfl) fun i hi => ?_
  omega
theorem q60_S_ok (R : Type) (other : Yard.Spec R) (ho : Yard.Spec.Ok Tryz.prog 12 other) : Yard.Spec.Ok Tryz.prog 12 (specBy q60_p q60_q (q60_rr q60) other) :=
  specBy_ok ho (funK_sound TT mixed (q60_EOk R) (keep := false) rfl rfl rfl rfl 0 (q60_loops R)) fun (x : Pat.dens q60_p) (y : HPat.dens q60_q) k => q60_ok q87 q67 q77 q84 (⟨x.1.1, x.1.2.1, x.1.2.2.1, x.1.2.2.2.1, x.1.2.2.2.2.1⟩ : Raw) (⟨x.2.1.1, x.2.1.2.1, x.2.1.2.2.1, x.2.1.2.2.2.1, x.2.1.2.2.2.2.1⟩ : Raw) k
end Go.Proofs.YtmlkkgfenfdndaaGreatDoor
set_option maxRecDepth 100000
namespace Go.Proofs.YtmlkkgfenfdndaaGreatDoor
open Go Go.Yard Go.Lib
theorem awake04 {R : Type} (k : Bool → Option R) : q67 k = k true := by kernel_rfl
theorem pick04 {R : Type} (c n : Int) (hc : I64 c) (h0 : 0 < n) (hn : n ≤ 9223372036854775807) : ∃ r : Int, 0 ≤ r ∧ r < n ∧ ∀ k : Int → Option R, q79 c n k = k r := pick_raw c n hc h0 hn
theorem fit_loop11 {R : Type} (hrec : q87_ty R) (d : Int) (hd : 1 ≤ d ∧ d ≤ 16) (q : Int) (hq : q = 6 ∨ q = 7) (raw : Raw) (hl : raw.items.length ≤ 1048576) (hok : Raw.okL raw.items) (hf : d < 16 → ∀ x ∈ raw.items, ∃ v, FitV R v (d + 1) (Raw.tot x) ∧ ∀ k : Json → Option R, hrec x (d + 1) k = k v) :
    ∀ (F i : Nat) (ns : List Str) (is : List Json), i ≤ raw.items.length → raw.items.length - i < F → is.length ≤ i → Held q d ns is (Raw.totL (raw.items.take i)) →
    ∃ ns' is', Held q d ns' is' (Raw.totL raw.items) ∧ ∀ e0, q87_11_0_L hrec F d q (i : Int) raw 0 0 0 [] q 0 0 [] ns is e0 = e0 0 0 0 [] q 0 0 [] ns' is' := by
  intro F
  induction F with
  | zero => intro i ns is _ h; omega
  | succ F ih =>
    intro i ns is hi hF hc hh
    have e1 : ∀ e0, q87_11_0_L hrec (F + 1) d q (i : Int) raw 0 0 0 [] q 0 0 [] ns is e0 = q87_11_0_B q78 hrec q87_18_0_L (fun x0' x1' x2' x3' x4' x5' x6' x7' x8' x9' x10' x11' x12' x13' => q87_11_0_L hrec F x0' x1' x2' x3' x4' x5' x6' x7' x8' x9' x10' x11' x12' x13' e0) d q (i : Int) raw 0 0 0 [] q 0 0 [] ns is e0 := fun e0 => rfl
    have stop : (∀ e0, q87_11_0_L hrec (F + 1) d q (i : Int) raw 0 0 0 [] q 0 0 [] ns is e0 = e0 0 0 0 [] q 0 0 [] ns is) → ∃ ns' is', Held q d ns' is' (Raw.totL raw.items) ∧ ∀ e0, q87_11_0_L hrec (F + 1) d q (i : Int) raw 0 0 0 [] q 0 0 [] ns is e0 = e0 0 0 0 [] q 0 0 [] ns' is' := fun h => by
      refine ⟨ns, is, ⟨hh.right, hh.len, hh.count, ?_⟩, h⟩
      have hle := totL_take_le raw.items i
      rcases hh.names with ⟨g1, g2, g3, g4, g5⟩ | ⟨g1, g2, g3⟩
      · exact .inl ⟨g1, g2, g3, g4, by omega⟩
      · exact .inr ⟨g1, g2, by omega⟩
    by_cases h : i < raw.items.length
    rotate_left
    · refine stop fun e0 => ?_
      rw [e1]
      unfold q87_11_0_B
      have h1 : decide ((i : Int) < (raw.items.length : Int)) = false := by simp; omega
      rw [h1]
      rfl
    have h1 : decide ((i : Int) < (raw.items.length : Int)) = true := by simp; omega
    by_cases h12 : i < 12
    rotate_left
    · refine stop fun e0 => ?_
      rw [e1]
      unfold q87_11_0_B
      have h2 : decide ((i : Int) < 12) = false := by simp; omega
      rw [h1, h2]
      rfl
    have h2 : decide ((i : Int) < 12) = true := by simp; omega
    by_cases h16 : d < 16
    rotate_left
    · refine stop fun e0 => ?_
      rw [e1]
      unfold q87_11_0_B
      have h3 : decide (d < 16) = false := by simp; omega
      rw [h1, h2, h3]
      rfl
    have h3 : decide (d < 16) = true := by simpa using h16
    have hw : IntKind.i64.wrap ((i : Int) + 1) = ((i + 1 : Nat) : Int) := by rw [wrap_id (by omega) (by omega)]; omega
    have hwd : IntKind.i64.wrap (d + 1) = d + 1 := wrap_id (by omega) (by omega)
    have hg : raw.items.getD (i : Int).toNat (Ty.dflt .raw) = raw.items[i] := getD_at h _
    have hxok := okL_mem hok (List.getElem_mem h)
    obtain ⟨v, hv, hrun⟩ := hf h16 raw.items[i] (List.getElem_mem h)
    generalize hx : raw.items[i] = x at *
    have hxt : ∀ c ∈ x.text, I64 c := by
      obtain ⟨k1, m1, e1', t1, is1⟩ := x
      exact hxok.1.2.2.2
    have hxl : x.text.length ≤ 1048576 := by
      obtain ⟨k1, m1, e1', t1, is1⟩ := x
      exact hxok.2.1.1
    have hmin : min (x.text.length : Int) 8 = ((min x.text.length 8 : Nat) : Int) := by omega
    obtain ⟨rs, r1, r2, r3, r4⟩ := text_ok2 (R := R) (x.text.take (min x.text.length 8)) (fun c hc => hxt c (List.mem_of_mem_take hc))
    have hval : validS (encL rs) = true := whole_iff.2 ⟨rs, r1, rfl⟩
    have htot : Raw.totL (raw.items.take (i + 1)) = Raw.totL (raw.items.take i) + Raw.tot x := by rw [totL_take _ _ h, hx]
    have hqt := qtS_len (encL rs)
    have e2 : ∀ e0, q87_11_0_L hrec (F + 1) d q (i : Int) raw 0 0 0 [] q 0 0 [] ns is e0 =
        (bif (q == 7) then (q87_18_0_L (Int.natAbs d + Int.natAbs q + Int.natAbs (i : Int) + List.length (encL rs) + Int.natAbs 0 + Raw.fu raw + Int.natAbs 0 + Int.natAbs 0 + Int.natAbs 0 + List.length ([] : Str) + Int.natAbs q + Int.natAbs 0 + Int.natAbs 0 + List.length ([] : Str) + List.length ns + List.length is + Raw.fu x + 64) d q (i : Int) (encL rs) false 0 raw 0 0 0 [] q 0 0 [] ns is x (fun y42 y43 y44 y45 y46 y47 y48 y49 y50 y51 y52 y53 y54 y55 y56 y57 y58 => bif y46 then (q87_11_0_L hrec F y42 y43 (IntKind.i64.wrap (y44 + 1)) y47 y48 y49 y50 y51 y52 y53 y54 y55 y56 y57 e0) else (chk (decide ((y56.length + 1) * 16 ≤ 140737488355328)) (hrec y58 (IntKind.i64.wrap (y42 + 1)) (fun y59 => chk (decide ((y57.length + 1) * 88 ≤ 140737488355328)) (q87_11_0_L hrec F y42 y43 (IntKind.i64.wrap (y44 + 1)) y47 y48 y49 y50 y51 y52 y53 y54 y55 (y56 ++ ([y45] : List Str)) (y57 ++ ([y59] : List Json)) e0))))))
        else (hrec x (IntKind.i64.wrap (d + 1)) (fun y60 => chk (decide ((is.length + 1) * 88 ≤ 140737488355328)) (q87_11_0_L hrec F d q (IntKind.i64.wrap ((i : Int) + 1)) raw 0 0 0 [] q 0 0 [] ns (is ++ ([y60] : List Json)) e0)))) := fun e0 => by
      rw [e1]
      unfold q87_11_0_B
      simp only [Raw.eta, Json.eta]
      rw [h1, cond_true, h2, cond_true, h3, cond_true, chk_pos (by simp), hg, hmin, chk_pos (by rw [dtrue (by omega), dtrue (by omega)]; rfl), chk_pos (dtrue (by omega)), Int.toNat_natCast, List.drop_zero, Nat.sub_zero, r4]
    have c1 : decide ((ns.length + 1) * 16 ≤ 140737488355328) = true := by
      rw [decide_eq_true_eq]
      have := hh.count
      rcases hh.names with ⟨_, g2, _⟩ | ⟨_, g2, _⟩
      · omega
      · rw [g2]; simp
    have c2 : decide ((is.length + 1) * 88 ≤ 140737488355328) = true := by
      rw [decide_eq_true_eq]
      have := hh.count
      omega
    have hsz := hv.size
    rcases hq with rfl | rfl
    · -- an array
      rcases hh.names with ⟨g1, _⟩ | ⟨_, g2, g3⟩
      · cases g1
      have hpe := printL_end is v true
      obtain ⟨ns', is', hh', hrun'⟩ := ih (i + 1) ns (is ++ [v]) (by omega) (by omega) (by simp; omega) ⟨by rw [rightL_end, hh.right, hv.right]; rfl, by rw [lenL_end, hh.len, hv.len]; rfl, by simp; omega, .inr ⟨rfl, g2, by rw [htot]; omega⟩⟩
      refine ⟨ns', is', hh', fun e0 => ?_⟩
      rw [e2]
      show hrec x (IntKind.i64.wrap (d + 1)) _ = _
      rw [hwd, hrun, chk_pos c2, hw, hrun']
    · -- an object
      rcases hh.names with ⟨_, g2, g3, g4, g5⟩ | ⟨g1, _⟩
      rotate_left
      · cases g1
      have hsl := fun e => fit_seen (R := R) d 7 (i : Int) (encL rs) raw 0 0 0 [] 7 0 0 [] ns (by have := hh.count; omega) is x e (Int.natAbs d + Int.natAbs 7 + Int.natAbs (i : Int) + List.length (encL rs) + Int.natAbs 0 + Raw.fu raw + Int.natAbs 0 + Int.natAbs 0 + Int.natAbs 0 + List.length ([] : Str) + Int.natAbs 7 + Int.natAbs 0 + Int.natAbs 0 + List.length ([] : Str) + List.length ns + List.length is + Raw.fu x + 64) 0 false (by omega) (by omega)
      cases hcn : ns.contains (encL rs) with
      | true =>
        obtain ⟨ns', is', hh', hrun'⟩ := ih (i + 1) ns is (by omega) (by omega) (by omega) ⟨hh.right, hh.len, hh.count, .inl ⟨rfl, g2, g3, g4, by rw [htot]; omega⟩⟩
        refine ⟨ns', is', hh', fun e0 => ?_⟩
        rw [e2]
        refine (hsl _).trans ?_
        rw [List.drop_zero, hcn]
        show q87_11_0_L hrec F d 7 (IntKind.i64.wrap ((i : Int) + 1)) raw 0 0 0 [] 7 0 0 [] ns is e0 = _
        rw [hw, hrun']
      | false =>
        have hpe := printO_end ns is (encL rs) v true g2
        obtain ⟨ns', is', hh', hrun'⟩ := ih (i + 1) (ns ++ [encL rs]) (is ++ [v]) (by omega) (by omega) (by simp; omega) ⟨by rw [rightL_end, hh.right, hv.right]; rfl, by rw [lenL_end, hh.len, hv.len]; rfl, by simp; omega,
          .inl ⟨rfl, by simp [g2], by rw [uniq_end, g3, hcn, hval]; rfl, fun t ht => by
            rcases List.mem_append.1 ht with ht | ht
            · exact g4 t ht
            · simp only [List.mem_singleton] at ht
              rw [ht]; omega, by rw [htot]; omega⟩⟩
        refine ⟨ns', is', hh', fun e0 => ?_⟩
        rw [e2]
        refine (hsl _).trans ?_
        rw [List.drop_zero, hcn]
        show chk (decide ((ns.length + 1) * 16 ≤ 140737488355328)) (hrec x (IntKind.i64.wrap (d + 1)) _) = _
        rw [chk_pos c1, hwd, hrun, chk_pos c2, hw, hrun']
theorem prtA_len {d : Dcm} (h : Fm d) : (prtA d).length ≤ 60 := by
  have e : prtA d = prt d := by unfold prtA; rw [fmB_iff.2 h]; rfl
  rw [e]
  exact (prt_chars h).2.2
theorem fit_N {R : Type} : ∀ (n : Nat) (x : Raw) (d : Int), Raw.ok x → x.depth < n → 1 ≤ d → d ≤ 16 → ∃ v, FitV R v d (Raw.tot x) ∧ ∀ k : Json → Option R, q87_N n x d k = k v := by
  intro n
  induction n with
  | zero => intro x d _ h; omega
  | succ n ih =>
    intro x d hx hn hd1 hd2
    have e0 : ∀ k : Json → Option R, q87_N (n + 1) x d k = q87_X q78 q85 q79 (q87_11_0_L (q87_N n)) x d k := fun k => rfl
    have hdep : ∀ z ∈ x.items, z.depth < n := fun z hz => by have := rdepth_item hz; omega
    obtain ⟨kd, mt, ex, tx, is⟩ := x
    obtain ⟨⟨i1, i2, i3, i4⟩, ⟨l1, l2⟩, i5⟩ := hx
    simp only at hdep
    have htot : Raw.tot ⟨kd, mt, ex, tx, is⟩ = Raw.totL is + 1 := rfl
    obtain ⟨y, y0, y1, hy⟩ := pick04 (R := R) kd 7 i1 (by omega) (by omega)
    have hw : IntKind.i64.wrap (1 + y) = 1 + y := wrap_id (by omega) (by omega)
    have hq : y = 0 ∨ y = 1 ∨ y = 2 ∨ y = 3 ∨ y = 4 ∨ y = 5 ∨ y = 6 := by omega
    have hlp : ∀ q : Int, q = 6 ∨ q = 7 → ∃ ns' is', Held q d ns' is' (Raw.totL is) ∧ ∀ e0, q87_11_0_L (R := R) (q87_N n) (Int.natAbs d + Int.natAbs q + Int.natAbs 0 + Raw.fu ⟨kd, mt, ex, tx, is⟩ + Int.natAbs 0 + Int.natAbs 0 + Int.natAbs 0 + List.length ([] : Str) + Int.natAbs q + Int.natAbs 0 + Int.natAbs 0 + List.length ([] : Str) + List.length ([] : List Str) + List.length ([] : List Json) + 64) d q ((0 : Nat) : Int) ⟨kd, mt, ex, tx, is⟩ 0 0 0 [] q 0 0 [] [] [] e0 = e0 0 0 0 [] q 0 0 [] ns' is' := fun q hq => by
      refine fit_loop11 (q87_N n) d ⟨hd1, hd2⟩ q hq ⟨kd, mt, ex, tx, is⟩ l2 i5 (fun h16 z hz => ih z (d + 1) (okL_mem i5 hz) (hdep z hz) (by omega) (by omega)) _ 0 [] [] (by omega) (by simp only [Raw.fu]; omega) (by simp) ⟨rfl, rfl, by simp, ?_⟩
      rcases hq with rfl | rfl
      · exact .inr ⟨rfl, rfl, by simp [printL]⟩
      · exact .inl ⟨rfl, rfl, rfl, by simp, by simp [printO]⟩
    have hnm : ∀ q : Int, q = 1 ∨ q = 2 ∨ q = 3 → FitV R ⟨q, ⟨0, 0⟩, [], [], []⟩ d (Raw.totL is + 1) := fun q hq => by
      refine ⟨rightJ_iff.2 (.name q d hd2 hq), rfl, ?_⟩
      rcases hq with rfl | rfl | rfl
      · show nullS.length + 5000 ≤ _
        have : nullS.length = 4 := rfl
        omega
      · show falseS.length + 5000 ≤ _
        have : falseS.length = 5 := rfl
        omega
      · show trueS.length + 5000 ≤ _
        have : trueS.length = 4 := rfl
        omega
    rw [htot]
    rcases hq with rfl | rfl | rfl | rfl | rfl | rfl | rfl
    · refine ⟨_, hnm 1 (by omega), fun k => ?_⟩
      rw [e0]
      unfold q87_X
      rw [hy]
      rfl
    · refine ⟨_, hnm 2 (by omega), fun k => ?_⟩
      rw [e0]
      unfold q87_X
      rw [hy]
      rfl
    · refine ⟨_, hnm 3 (by omega), fun k => ?_⟩
      rw [e0]
      unfold q87_X
      rw [hy]
      rfl
    · obtain ⟨dc, hdc, hrun⟩ := fit_ok (R := R) mt ex i2 i3
      refine ⟨⟨4, dc, [], [], []⟩, ⟨rightJ_iff.2 (.num dc d hd2 hdc), rfl, ?_⟩, fun k => ?_⟩
      · show (prtA dc).length + 5000 ≤ _
        have := prtA_len hdc
        omega
      · rw [e0]
        unfold q87_X
        rw [hy]
        show q85 mt ex _ = _
        rw [hrun]
        rfl
    · have hmin : min (tx.length : Int) 20 = ((min tx.length 20 : Nat) : Int) := by omega
      obtain ⟨rs, r1, r2, r3, r4⟩ := text_ok2 (R := R) (tx.take (min tx.length 20)) (fun c hc => i4 c (List.mem_of_mem_take hc))
      have hqt := qtS_len (encL rs)
      refine ⟨⟨5, ⟨0, 0⟩, encL rs, [], []⟩, ⟨rightJ_iff.2 (.text _ d hd2 (whole_iff.2 ⟨rs, r1, rfl⟩)), lenJ_iff.2 ⟨by simp, by simp, rfl, by simp only; omega, by simp⟩, ?_⟩, fun k => ?_⟩
      · show (qtS (encL rs)).length + 5000 ≤ _
        omega
      · rw [e0]
        unfold q87_X
        rw [hy]
        show chk (decide ((0 : Int) ≤ (min (tx.length : Int) 20)) && decide ((min (tx.length : Int) 20) ≤ (tx.length : Int))) (chk (decide ((0 : Int) ≤ (min (tx.length : Int) 20))) (q78 ((tx.drop 0).take ((min (tx.length : Int) 20).toNat - 0)) _)) = _
        rw [hmin, chk_pos (by rw [dtrue (by omega), dtrue (by omega)]; rfl), chk_pos (dtrue (by omega)), Int.toNat_natCast, List.drop_zero, Nat.sub_zero, r4]
        rfl
    · obtain ⟨ns', is', hh, hrun⟩ := hlp 6 (.inl rfl)
      refine ⟨_, hh.fit hd2 (Nat.le_refl _), fun k => ?_⟩
      rw [e0]
      unfold q87_X
      rw [hy]
      exact hrun _
    · obtain ⟨ns', is', hh, hrun⟩ := hlp 7 (.inr rfl)
      refine ⟨_, hh.fit hd2 (Nat.le_refl _), fun k => ?_⟩
      rw [e0]
      unfold q87_X
      rw [hy]
      exact hrun _
theorem jfit {R : Type} (x : Raw) (hx : Raw.ok x) (d : Int) (h1 : 1 ≤ d) (h2 : d ≤ 16) : ∃ v, FitV R v d (Raw.tot x) ∧ ∀ k : Json → Option R, q87 x d k = k v := fit_N (x.depth + 2) x d hx (by omega) h1 h2
end Go.Proofs.YtmlkkgfenfdndaaGreatDoor
