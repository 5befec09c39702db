/-
  DecimalSums: for every input whose bulk is at most 1048576 the law returns true, and each argument reads behind the call as it read before; part 9 of 9 of the proof: an interpreter of the model's code over typed data, proved sound; the functions that the law reaches, printed as Lean functions and tied; the plain law. Own texts laid one behind the other.
-/
import Derived.Lib.ItoaMem
import Derived.Test.YtifgegmnngfckaaDoorDecimalSumsB8
set_option linter.unusedSimpArgs false
set_option linter.unnecessarySimpa false
set_option linter.unusedVariables false
set_option linter.unusedSectionVars false
/-
  Functions of the program as pure Lean functions, and the ties; printed by wip/tools/emit.py.
-/
set_option maxRecDepth 100000
set_option linter.unusedVariables false
namespace Go.Proofs.YtifgegmnngfckaaDoor
open Go Go.Yard

/-! ### humpyard/humpyardref01.text -/
abbrev ref01_text_ty (R : Type) : Type := Int → (Str → Option R) → Option R
abbrev ref01_text_p : List Pat := [.leaf (.int .i64)]
abbrev ref01_text_q : List HPat := []
noncomputable def ref01_text_rr {R : Type} (fn : ref01_text_ty R) : Pat.dens ref01_text_p → HPat.dens ref01_text_q → (V → Heap → Option R) → Option R := fun x y k => fn x.1 (fun q0 => k (.str q0) [])
noncomputable def ref01_text_E (R : Type) (hrec_ref01_text : ref01_text_ty R) : Env R := fun i => match i with
  | 70 => some (true, (specBy ref01_text_p ref01_text_q (ref01_text_rr hrec_ref01_text) specNo))
  | _ => none
theorem ref01_text_EOk (R : Type) (hrec_ref01_text : ref01_text_ty R) (hyp_ref01_text : Yard.Spec.Ok Tryd.prog 70 (specBy ref01_text_p ref01_text_q (ref01_text_rr hrec_ref01_text) specNo)) : EOk Tryd.prog (ref01_text_E R hrec_ref01_text) := by
  intro i b sp h
  unfold ref01_text_E at h
  split at h
  · cases h; exact ⟨hyp_ref01_text, fun h => nomatch h⟩
  · cases h

noncomputable def ref01_text_T (R : Type) : Nat → Option (Hint × LSpec R) := fun i => match i with
  | _ => none

noncomputable def ref01_text_X {R : Type} (hrec_ref01_text : ref01_text_ty R) (x1 : Int) (k0 : Str → Option R) : Option R :=
  bif (decide (x1 ≥ (10 : Int))) then (hrec_ref01_text (IntKind.i64.wrap (Int.tdiv x1 10)) (fun y2 => chk (decide (y2.length + (List.map (fun n : Int => UInt8.ofNat n.toNat) ([(IntKind.u8.wrap (IntKind.i64.wrap (48 + (Int.tmod x1 10))))] : List Int) : Str).length ≤ 9223372036854775807)) (k0 (y2 ++ (List.map (fun n : Int => UInt8.ofNat n.toNat) ([(IntKind.u8.wrap (IntKind.i64.wrap (48 + (Int.tmod x1 10))))] : List Int) : Str))))) else (k0 (List.map (fun n : Int => UInt8.ofNat n.toNat) ([(IntKind.u8.wrap (IntKind.i64.wrap (48 + (Int.tmod x1 10))))] : List Int) : Str))
noncomputable def ref01_text_B {R : Type} (hrec_ref01_text : ref01_text_ty R) : ref01_text_ty R := fun x1 k0 => ref01_text_X hrec_ref01_text x1 k0
theorem ref01_text_ok {R : Type} (hrec_ref01_text : ref01_text_ty R) (x1 : Int) (k : V → Heap → Option R) : funK tt (ref01_text_E R hrec_ref01_text) (ref01_text_T R) false Tryd.f70 (codeOf Tryd.f70) [.int .i64 x1] [] k =
    ref01_text_X hrec_ref01_text x1 (fun q0 => k (.str q0) []) := by kernel_rfl
theorem ref01_text_loops (R : Type) (hrec_ref01_text : ref01_text_ty R) : ∀ a ∈ loopsOf (codeOf Tryd.f70), LoopOk tt (ref01_text_E R hrec_ref01_text) (ref01_text_T R) 0 a := by
  refine loops_ok 0 (by kernel_rfl) fun i hi => ?_
  omega
theorem ref01_text_S_okB (R : Type) (hrec_ref01_text : ref01_text_ty R) (hyp_ref01_text : Yard.Spec.Ok Tryd.prog 70 (specBy ref01_text_p ref01_text_q (ref01_text_rr hrec_ref01_text) specNo)) (other : Yard.Spec R) (ho : Yard.Spec.Ok Tryd.prog 70 other) : Yard.Spec.Ok Tryd.prog 70 (specBy ref01_text_p ref01_text_q (ref01_text_rr (ref01_text_B hrec_ref01_text)) other) :=
  specBy_ok ho (funK_sound TT mixed (ref01_text_EOk R hrec_ref01_text hyp_ref01_text) (keep := false) rfl rfl rfl rfl 0 (ref01_text_loops R hrec_ref01_text)) fun (x : Pat.dens ref01_text_p) (y : HPat.dens ref01_text_q) k => ref01_text_ok hrec_ref01_text x.1 k
noncomputable def ref01_text_N {R : Type} : Nat → ref01_text_ty R
  | 0, _, _ => none
  | n + 1, x0', k0' => ref01_text_B (ref01_text_N n) x0' k0'
theorem ref01_text_N_succ {R : Type} (n : Nat) : ref01_text_N (R := R) (n + 1) = ref01_text_B (ref01_text_N n) := by kernel_rfl
theorem ref01_text_N_ok (R : Type) : ∀ n, Yard.Spec.Ok Tryd.prog 70 (specBy ref01_text_p ref01_text_q (ref01_text_rr (ref01_text_N (R := R) n)) specNo) :=
  specBy_fuel (run := fun n => ref01_text_rr (ref01_text_N (R := R) n)) (fun x y k => by kernel_rfl) fun n hyp => ref01_text_S_okB R (ref01_text_N n) hyp specNo (specNo_ok _)
noncomputable def ref01_text {R : Type} : ref01_text_ty R := fun x1 k0 => ref01_text_N (Int.natAbs x1 + 2) x1 k0
theorem ref01_text_r_ok (R : Type) : ref01_text_rr (R := R) ref01_text = fun x y k => ref01_text_rr (ref01_text_N (Int.natAbs x.1 + 2)) x y k := by kernel_rfl
theorem ref01_text_S_ok (R : Type) (other : Yard.Spec R) (ho : Yard.Spec.Ok Tryd.prog 70 other) : Yard.Spec.Ok Tryd.prog 70 (specBy ref01_text_p ref01_text_q (ref01_text_rr ref01_text) other) :=
  specBy_run (specBy_at (run := fun n => ref01_text_rr (ref01_text_N (R := R) n)) (fun x y => (Int.natAbs x.1 + 2)) ho (ref01_text_N_ok R)) (ref01_text_r_ok R)

/-! ### humpyard/humpyardref01.Print -/
abbrev ref01_Print_ty (R : Type) : Type := Dcm → (Str → Option R) → Option R
abbrev ref01_Print_p : List Pat := [.agg [.int .i64, .int .i64]]
abbrev ref01_Print_q : List HPat := []
noncomputable def ref01_Print_rr {R : Type} (fn : ref01_Print_ty R) : Pat.dens ref01_Print_p → HPat.dens ref01_Print_q → (V → Heap → Option R) → Option R := fun x y k => fn (⟨x.1.1, x.1.2.1⟩ : Dcm) (fun q0 => k (.str q0) [])
abbrev ref01_Print_6_0_ty (R : Type) : Type := Nat → Str → Int → Dcm → (Str → Dcm → Option R) → Option R
abbrev ref01_Print_10_0_ty (R : Type) : Type := Nat → Str → Dcm → (Str → Dcm → Option R) → Option R
noncomputable def ref01_Print_E (R : Type) (ref01_Right : ref01_Right_ty R) (ref01_text : ref01_text_ty R) : Env R := fun i => match i with
  | 41 => some (true, (specBy ref01_Right_p ref01_Right_q (ref01_Right_rr ref01_Right) specNo))
  | 70 => some (true, (specBy ref01_text_p ref01_text_q (ref01_text_rr ref01_text) specNo))
  | _ => none
theorem ref01_Print_EOk (R : Type) : EOk Tryd.prog (ref01_Print_E R ref01_Right ref01_text) := by
  intro i b sp h
  unfold ref01_Print_E at h
  split at h
  · cases h; exact ⟨(ref01_Right_S_ok R _ (specNo_ok _)), fun h => nomatch h⟩
  · cases h; exact ⟨(ref01_text_S_ok R _ (specNo_ok _)), fun h => nomatch h⟩
  · cases h

noncomputable def ref01_Print_6_0_B {R : Type} (rec' : Str → Int → Dcm → Option R) (x4 : Str) (x5 : Int) (x6 : Dcm) (e0 : Str → Dcm → Option R) : Option R :=
  bif (decide (x5 < x6.exp)) then (chk (decide (x4.length + 1 ≤ 9223372036854775807)) (rec' (x4 ++ ([48] : Str)) (IntKind.i64.wrap (x5 + 1)) x6)) else (e0 x4 x6)
noncomputable def ref01_Print_6_0_L {R : Type} : ref01_Print_6_0_ty R
  | 0, _, _, _, _ => none
  | n + 1, x0', x1', x2', e0 => ref01_Print_6_0_B (fun x0' x1' x2' => ref01_Print_6_0_L n x0' x1' x2' e0) x0' x1' x2' e0
noncomputable def ref01_Print_6_0_h : Hint := { live := [1, 4, 5], own := [], rows := [], cells := [], drop := [], out := [1, 2, 4] }
abbrev ref01_Print_6_0_D : Type := Str × Int × Dcm
noncomputable def ref01_Print_6_0_enc : ref01_Print_6_0_D → St := fun d => ⟨[.undef, .ptr 0 0, .undef, .undef, .str d.1, .int .i64 d.2.1, .undef, .undef, .undef, .undef, .undef, .undef, .undef, .undef, .undef, .undef, .undef, .undef, .undef, .undef, .undef, .undef, .undef, .undef, .undef, .undef, .undef, .undef, .undef, .undef, .undef, .undef, .undef, .undef, .undef, .undef, .undef, .undef, .undef, .undef, .undef, .undef, .undef, .undef, .undef, .undef, .undef, .undef, .undef, .undef, .undef, .undef, .undef, .undef, .undef, .undef, .undef, .undef], [.cells [.int .i64 d.2.2.mant, .int .i64 d.2.2.exp]]⟩
noncomputable def ref01_Print_6_0_x0 {R : Type} (K : Ex → St → Option R) (q0 : Str) (q1 : Dcm) : Option R := K (.exit 0) ⟨[.undef, .ptr 0 0, .undef, .undef, .str q0, .undef, .undef, .undef, .undef, .undef, .undef, .undef, .undef, .undef, .undef, .undef, .undef, .undef, .undef, .undef, .undef, .undef, .undef, .undef, .undef, .undef, .undef, .undef, .undef, .undef, .undef, .undef, .undef, .undef, .undef, .undef, .undef, .undef, .undef, .undef, .undef, .undef, .undef, .undef, .undef, .undef, .undef, .undef, .undef, .undef, .undef, .undef, .undef, .undef, .undef, .undef, .undef, .undef], [.cells [.int .i64 q1.mant, .int .i64 q1.exp]]⟩
noncomputable def ref01_Print_6_0_s {R : Type} (K : Ex → St → Option R) (rc : ref01_Print_6_0_D → Option R) (d : ref01_Print_6_0_D) : Option R := ref01_Print_6_0_B (fun z0 z1 z2 => rc (z0, z1, z2)) d.1 d.2.1 d.2.2 (ref01_Print_6_0_x0 K)
noncomputable def ref01_Print_6_0_A {R : Type} (K : Ex → St → Option R) (n : Nat) (d : ref01_Print_6_0_D) : Option R := ref01_Print_6_0_L n d.1 d.2.1 d.2.2 (ref01_Print_6_0_x0 K)
abbrev ref01_Print_6_0_p : List Pat := [.leaf (.undef), .leaf (.ptr 0 0), .leaf (.undef), .leaf (.undef), .leaf (.str), .leaf (.int .i64), .leaf (.undef), .leaf (.undef), .leaf (.undef), .leaf (.undef), .leaf (.undef), .leaf (.undef), .leaf (.undef), .leaf (.undef), .leaf (.undef), .leaf (.undef), .leaf (.undef), .leaf (.undef), .leaf (.undef), .leaf (.undef), .leaf (.undef), .leaf (.undef), .leaf (.undef), .leaf (.undef), .leaf (.undef), .leaf (.undef), .leaf (.undef), .leaf (.undef), .leaf (.undef), .leaf (.undef), .leaf (.undef), .leaf (.undef), .leaf (.undef), .leaf (.undef), .leaf (.undef), .leaf (.undef), .leaf (.undef), .leaf (.undef), .leaf (.undef), .leaf (.undef), .leaf (.undef), .leaf (.undef), .leaf (.undef), .leaf (.undef), .leaf (.undef), .leaf (.undef), .leaf (.undef), .leaf (.undef), .leaf (.undef), .leaf (.undef), .leaf (.undef), .leaf (.undef), .leaf (.undef), .leaf (.undef), .leaf (.undef), .leaf (.undef), .leaf (.undef), .leaf (.undef)]
abbrev ref01_Print_6_0_q : List HPat := [.cells [.int .i64, .int .i64]]
noncomputable def ref01_Print_6_0_f (x : Pat.dens ref01_Print_6_0_p) (y : HPat.dens ref01_Print_6_0_q) : Nat := (List.length x.2.2.2.2.1 + Int.natAbs x.2.2.2.2.2.1 + Dcm.fu (⟨y.1.1, y.1.2.1⟩ : Dcm) + 64)
noncomputable def ref01_Print_6_0_d (x : Pat.dens ref01_Print_6_0_p) (y : HPat.dens ref01_Print_6_0_q) : ref01_Print_6_0_D := (x.2.2.2.2.1, x.2.2.2.2.2.1, (⟨y.1.1, y.1.2.1⟩ : Dcm))
noncomputable def ref01_Print_6_0_rr {R : Type} (L : ref01_Print_6_0_ty R) : Pat.dens ref01_Print_6_0_p → HPat.dens ref01_Print_6_0_q → (Ex → St → Option R) → Option R := fun x y K => L (ref01_Print_6_0_f x y) x.2.2.2.2.1 x.2.2.2.2.2.1 (⟨y.1.1, y.1.2.1⟩ : Dcm) (ref01_Print_6_0_x0 K)
noncomputable def ref01_Print_10_0_B {R : Type} (rec' : Str → Dcm → Option R) (x9 : Str) (x10 : Dcm) (e0 : Str → Dcm → Option R) : Option R :=
  bif (decide ((x9.length : Int) ≤ (IntKind.i64.wrap (0 - x10.exp)))) then (chk (decide (1 + x9.length ≤ 9223372036854775807)) (rec' (([48] : Str) ++ x9) x10)) else (e0 x9 x10)
noncomputable def ref01_Print_10_0_L {R : Type} : ref01_Print_10_0_ty R
  | 0, _, _, _ => none
  | n + 1, x0', x1', e0 => ref01_Print_10_0_B (fun x0' x1' => ref01_Print_10_0_L n x0' x1' e0) x0' x1' e0
noncomputable def ref01_Print_10_0_h : Hint := { live := [1, 4], own := [], rows := [], cells := [], drop := [], out := [1, 2, 4] }
abbrev ref01_Print_10_0_D : Type := Str × Dcm
noncomputable def ref01_Print_10_0_enc : ref01_Print_10_0_D → St := fun d => ⟨[.undef, .ptr 0 0, .undef, .undef, .str d.1, .undef, .undef, .undef, .undef, .undef, .undef, .undef, .undef, .undef, .undef, .undef, .undef, .undef, .undef, .undef, .undef, .undef, .undef, .undef, .undef, .undef, .undef, .undef, .undef, .undef, .undef, .undef, .undef, .undef, .undef, .undef, .undef, .undef, .undef, .undef, .undef, .undef, .undef, .undef, .undef, .undef, .undef, .undef, .undef, .undef, .undef, .undef, .undef, .undef, .undef, .undef, .undef, .undef], [.cells [.int .i64 d.2.mant, .int .i64 d.2.exp]]⟩
noncomputable def ref01_Print_10_0_x0 {R : Type} (K : Ex → St → Option R) (q0 : Str) (q1 : Dcm) : Option R := K (.exit 2) ⟨[.undef, .ptr 0 0, .undef, .undef, .str q0, .undef, .undef, .undef, .undef, .undef, .undef, .undef, .undef, .undef, .undef, .undef, .undef, .undef, .undef, .undef, .undef, .undef, .undef, .undef, .undef, .undef, .undef, .undef, .undef, .undef, .undef, .undef, .undef, .undef, .undef, .undef, .undef, .undef, .undef, .undef, .undef, .undef, .undef, .undef, .undef, .undef, .undef, .undef, .undef, .undef, .undef, .undef, .undef, .undef, .undef, .undef, .undef, .undef], [.cells [.int .i64 q1.mant, .int .i64 q1.exp]]⟩
noncomputable def ref01_Print_10_0_s {R : Type} (K : Ex → St → Option R) (rc : ref01_Print_10_0_D → Option R) (d : ref01_Print_10_0_D) : Option R := ref01_Print_10_0_B (fun z0 z1 => rc (z0, z1)) d.1 d.2 (ref01_Print_10_0_x0 K)
noncomputable def ref01_Print_10_0_A {R : Type} (K : Ex → St → Option R) (n : Nat) (d : ref01_Print_10_0_D) : Option R := ref01_Print_10_0_L n d.1 d.2 (ref01_Print_10_0_x0 K)
abbrev ref01_Print_10_0_p : List Pat := [.leaf (.undef), .leaf (.ptr 0 0), .leaf (.undef), .leaf (.undef), .leaf (.str), .leaf (.undef), .leaf (.undef), .leaf (.undef), .leaf (.undef), .leaf (.undef), .leaf (.undef), .leaf (.undef), .leaf (.undef), .leaf (.undef), .leaf (.undef), .leaf (.undef), .leaf (.undef), .leaf (.undef), .leaf (.undef), .leaf (.undef), .leaf (.undef), .leaf (.undef), .leaf (.undef), .leaf (.undef), .leaf (.undef), .leaf (.undef), .leaf (.undef), .leaf (.undef), .leaf (.undef), .leaf (.undef), .leaf (.undef), .leaf (.undef), .leaf (.undef), .leaf (.undef), .leaf (.undef), .leaf (.undef), .leaf (.undef), .leaf (.undef), .leaf (.undef), .leaf (.undef), .leaf (.undef), .leaf (.undef), .leaf (.undef), .leaf (.undef), .leaf (.undef), .leaf (.undef), .leaf (.undef), .leaf (.undef), .leaf (.undef), .leaf (.undef), .leaf (.undef), .leaf (.undef), .leaf (.undef), .leaf (.undef), .leaf (.undef), .leaf (.undef), .leaf (.undef), .leaf (.undef)]
abbrev ref01_Print_10_0_q : List HPat := [.cells [.int .i64, .int .i64]]
noncomputable def ref01_Print_10_0_f (x : Pat.dens ref01_Print_10_0_p) (y : HPat.dens ref01_Print_10_0_q) : Nat := (List.length x.2.2.2.2.1 + Dcm.fu (⟨y.1.1, y.1.2.1⟩ : Dcm) + 64)
noncomputable def ref01_Print_10_0_d (x : Pat.dens ref01_Print_10_0_p) (y : HPat.dens ref01_Print_10_0_q) : ref01_Print_10_0_D := (x.2.2.2.2.1, (⟨y.1.1, y.1.2.1⟩ : Dcm))
noncomputable def ref01_Print_10_0_rr {R : Type} (L : ref01_Print_10_0_ty R) : Pat.dens ref01_Print_10_0_p → HPat.dens ref01_Print_10_0_q → (Ex → St → Option R) → Option R := fun x y K => L (ref01_Print_10_0_f x y) x.2.2.2.2.1 (⟨y.1.1, y.1.2.1⟩ : Dcm) (ref01_Print_10_0_x0 K)
noncomputable def ref01_Print_T (R : Type) (ref01_Print_6_0_L : ref01_Print_6_0_ty R) (ref01_Print_10_0_L : ref01_Print_10_0_ty R) : Nat → Option (Hint × LSpec R) := fun i => match i with
  | 6 => some (ref01_Print_6_0_h, (loopBy ref01_Print_6_0_p ref01_Print_6_0_q (ref01_Print_6_0_rr ref01_Print_6_0_L) loopNo))
  | 10 => some (ref01_Print_10_0_h, (loopBy ref01_Print_10_0_p ref01_Print_10_0_q (ref01_Print_10_0_rr ref01_Print_10_0_L) loopNo))
  | _ => none

theorem ref01_Print_6_0_B_ok {R : Type} (ref01_Right : ref01_Right_ty R) (ref01_text : ref01_text_ty R) (ref01_Print_6_0_L : ref01_Print_6_0_ty R) (ref01_Print_10_0_L : ref01_Print_10_0_ty R) (K : Ex → St → Option R) (rc : St → Option R) (d : ref01_Print_6_0_D) : roundOf tt (ref01_Print_E R ref01_Right ref01_text) (ref01_Print_T R ref01_Print_6_0_L ref01_Print_10_0_L) 0 ((loopsOf (codeOf Tryd.f42)).getD 0 .skip) ref01_Print_6_0_h (ref01_Print_6_0_enc d) rc K = ref01_Print_6_0_s K (fun d => rc (ref01_Print_6_0_enc d)) d := by kernel_rfl
theorem ref01_Print_6_0_A_succ {R : Type} (K : Ex → St → Option R) (n : Nat) (d : ref01_Print_6_0_D) : ref01_Print_6_0_A K (n + 1) d = ref01_Print_6_0_s K (ref01_Print_6_0_A K n) d := by kernel_rfl
theorem ref01_Print_6_0_A_zero {R : Type} (K : Ex → St → Option R) (d : ref01_Print_6_0_D) : ref01_Print_6_0_A K 0 d = none := by kernel_rfl
theorem ref01_Print_6_0_e_ok (x : Pat.dens ref01_Print_6_0_p) (y : HPat.dens ref01_Print_6_0_q) : (⟨Pat.encL ref01_Print_6_0_p x, HPat.encL ref01_Print_6_0_q y⟩ : St) = ref01_Print_6_0_enc (ref01_Print_6_0_d x y) := by kernel_rfl
theorem ref01_Print_6_0_r_ok {R : Type} (x : Pat.dens ref01_Print_6_0_p) (y : HPat.dens ref01_Print_6_0_q) (K : Ex → St → Option R) : ref01_Print_6_0_rr (ref01_Print_6_0_L) x y K = ref01_Print_6_0_A K (ref01_Print_6_0_f x y) (ref01_Print_6_0_d x y) := by kernel_rfl
theorem ref01_Print_6_0_ok {R : Type} (other : LSpec R) (ho : LsOk tt (ref01_Print_E R ref01_Right ref01_text) (ref01_Print_T R ref01_Print_6_0_L ref01_Print_10_0_L) 0 ((loopsOf (codeOf Tryd.f42)).getD 0 .skip) ref01_Print_6_0_h other) : LsOk tt (ref01_Print_E R ref01_Right ref01_text) (ref01_Print_T R ref01_Print_6_0_L ref01_Print_10_0_L) 0 ((loopsOf (codeOf Tryd.f42)).getD 0 .skip) ref01_Print_6_0_h (loopBy ref01_Print_6_0_p ref01_Print_6_0_q (ref01_Print_6_0_rr (ref01_Print_6_0_L)) other) :=
  loopBy_tie (A := ref01_Print_6_0_A) ho (loop_tie ref01_Print_6_0_enc (ref01_Print_6_0_s) (ref01_Print_6_0_A) (ref01_Print_6_0_A_zero) (ref01_Print_6_0_B_ok ref01_Right ref01_text ref01_Print_6_0_L ref01_Print_10_0_L) (ref01_Print_6_0_A_succ)) ref01_Print_6_0_f ref01_Print_6_0_d ref01_Print_6_0_e_ok (ref01_Print_6_0_r_ok)

theorem ref01_Print_10_0_B_ok {R : Type} (ref01_Right : ref01_Right_ty R) (ref01_text : ref01_text_ty R) (ref01_Print_6_0_L : ref01_Print_6_0_ty R) (ref01_Print_10_0_L : ref01_Print_10_0_ty R) (K : Ex → St → Option R) (rc : St → Option R) (d : ref01_Print_10_0_D) : roundOf tt (ref01_Print_E R ref01_Right ref01_text) (ref01_Print_T R ref01_Print_6_0_L ref01_Print_10_0_L) 0 ((loopsOf (codeOf Tryd.f42)).getD 1 .skip) ref01_Print_10_0_h (ref01_Print_10_0_enc d) rc K = ref01_Print_10_0_s K (fun d => rc (ref01_Print_10_0_enc d)) d := by kernel_rfl
theorem ref01_Print_10_0_A_succ {R : Type} (K : Ex → St → Option R) (n : Nat) (d : ref01_Print_10_0_D) : ref01_Print_10_0_A K (n + 1) d = ref01_Print_10_0_s K (ref01_Print_10_0_A K n) d := by kernel_rfl
theorem ref01_Print_10_0_A_zero {R : Type} (K : Ex → St → Option R) (d : ref01_Print_10_0_D) : ref01_Print_10_0_A K 0 d = none := by kernel_rfl
theorem ref01_Print_10_0_e_ok (x : Pat.dens ref01_Print_10_0_p) (y : HPat.dens ref01_Print_10_0_q) : (⟨Pat.encL ref01_Print_10_0_p x, HPat.encL ref01_Print_10_0_q y⟩ : St) = ref01_Print_10_0_enc (ref01_Print_10_0_d x y) := by kernel_rfl
theorem ref01_Print_10_0_r_ok {R : Type} (x : Pat.dens ref01_Print_10_0_p) (y : HPat.dens ref01_Print_10_0_q) (K : Ex → St → Option R) : ref01_Print_10_0_rr (ref01_Print_10_0_L) x y K = ref01_Print_10_0_A K (ref01_Print_10_0_f x y) (ref01_Print_10_0_d x y) := by kernel_rfl
theorem ref01_Print_10_0_ok {R : Type} (other : LSpec R) (ho : LsOk tt (ref01_Print_E R ref01_Right ref01_text) (ref01_Print_T R ref01_Print_6_0_L ref01_Print_10_0_L) 0 ((loopsOf (codeOf Tryd.f42)).getD 1 .skip) ref01_Print_10_0_h other) : LsOk tt (ref01_Print_E R ref01_Right ref01_text) (ref01_Print_T R ref01_Print_6_0_L ref01_Print_10_0_L) 0 ((loopsOf (codeOf Tryd.f42)).getD 1 .skip) ref01_Print_10_0_h (loopBy ref01_Print_10_0_p ref01_Print_10_0_q (ref01_Print_10_0_rr (ref01_Print_10_0_L)) other) :=
  loopBy_tie (A := ref01_Print_10_0_A) ho (loop_tie ref01_Print_10_0_enc (ref01_Print_10_0_s) (ref01_Print_10_0_A) (ref01_Print_10_0_A_zero) (ref01_Print_10_0_B_ok ref01_Right ref01_text ref01_Print_6_0_L ref01_Print_10_0_L) (ref01_Print_10_0_A_succ)) ref01_Print_10_0_f ref01_Print_10_0_d ref01_Print_10_0_e_ok (ref01_Print_10_0_r_ok)

noncomputable def ref01_Print_X {R : Type} (ref01_Right : ref01_Right_ty R) (ref01_text : ref01_text_ty R) (ref01_Print_6_0_L : ref01_Print_6_0_ty R) (ref01_Print_10_0_L : ref01_Print_10_0_ty R) (x1 : Dcm) (k0 : Str → Option R) : Option R :=
  ref01_Right x1 (fun y2 => bif (!y2) then (k0 ([] : Str)) else (ref01_text (max x1.mant (IntKind.i64.wrap (0 - x1.mant))) (fun y3 => ref01_Print_6_0_L (List.length y3 + Int.natAbs 0 + Dcm.fu x1 + 64) y3 0 x1 (fun y7 y8 => bif (decide (y8.exp < (0 : Int))) then (ref01_Print_10_0_L (List.length y7 + Dcm.fu y8 + 64) y7 y8 (fun y11 y12 => chk (decide ((0 : Int) ≤ (IntKind.i64.wrap ((y11.length : Int) + y12.exp))) && decide ((IntKind.i64.wrap ((y11.length : Int) + y12.exp)) ≤ y11.length)) (chk (decide ((0 : Int) ≤ (IntKind.i64.wrap ((y11.length : Int) + y12.exp)))) (chk (decide (((y11.drop 0).take ((IntKind.i64.wrap ((y11.length : Int) + y12.exp)).toNat - 0)).length + 1 ≤ 9223372036854775807)) (chk (decide ((0 : Int) ≤ (y11.length : Int)) && decide ((y11.length : Int) ≤ y11.length)) (chk (decide ((0 : Int) ≤ (IntKind.i64.wrap ((y11.length : Int) + y12.exp))) && decide ((IntKind.i64.wrap ((y11.length : Int) + y12.exp)) ≤ (y11.length : Int))) (chk (decide ((((y11.drop 0).take ((IntKind.i64.wrap ((y11.length : Int) + y12.exp)).toNat - 0)) ++ ([46] : Str)).length + ((y11.drop (IntKind.i64.wrap ((y11.length : Int) + y12.exp)).toNat).take ((y11.length : Int).toNat - (IntKind.i64.wrap ((y11.length : Int) + y12.exp)).toNat)).length ≤ 9223372036854775807)) (bif (decide (y12.mant < (0 : Int))) then (chk (decide (1 + ((((y11.drop 0).take ((IntKind.i64.wrap ((y11.length : Int) + y12.exp)).toNat - 0)) ++ ([46] : Str)) ++ ((y11.drop (IntKind.i64.wrap ((y11.length : Int) + y12.exp)).toNat).take ((y11.length : Int).toNat - (IntKind.i64.wrap ((y11.length : Int) + y12.exp)).toNat))).length ≤ 9223372036854775807)) (k0 (([45] : Str) ++ ((((y11.drop 0).take ((IntKind.i64.wrap ((y11.length : Int) + y12.exp)).toNat - 0)) ++ ([46] : Str)) ++ ((y11.drop (IntKind.i64.wrap ((y11.length : Int) + y12.exp)).toNat).take ((y11.length : Int).toNat - (IntKind.i64.wrap ((y11.length : Int) + y12.exp)).toNat)))))) else (k0 ((((y11.drop 0).take ((IntKind.i64.wrap ((y11.length : Int) + y12.exp)).toNat - 0)) ++ ([46] : Str)) ++ ((y11.drop (IntKind.i64.wrap ((y11.length : Int) + y12.exp)).toNat).take ((y11.length : Int).toNat - (IntKind.i64.wrap ((y11.length : Int) + y12.exp)).toNat)))))))))))) else (bif (decide (y8.mant < (0 : Int))) then (chk (decide (1 + y7.length ≤ 9223372036854775807)) (k0 (([45] : Str) ++ y7))) else (k0 y7))))))
noncomputable def ref01_Print {R : Type} : ref01_Print_ty R := fun x1 k0 => ref01_Print_X ref01_Right ref01_text ref01_Print_6_0_L ref01_Print_10_0_L x1 k0
theorem ref01_Print_ok {R : Type} (ref01_Right : ref01_Right_ty R) (ref01_text : ref01_text_ty R) (ref01_Print_6_0_L : ref01_Print_6_0_ty R) (ref01_Print_10_0_L : ref01_Print_10_0_ty R) (x1 : Dcm) (k : V → Heap → Option R) : funK tt (ref01_Print_E R ref01_Right ref01_text) (ref01_Print_T R ref01_Print_6_0_L ref01_Print_10_0_L) false Tryd.f42 (codeOf Tryd.f42) [.agg [.int .i64 x1.mant, .int .i64 x1.exp]] [] k =
    ref01_Print_X ref01_Right ref01_text ref01_Print_6_0_L ref01_Print_10_0_L x1 (fun q0 => k (.str q0) []) := by kernel_rfl
theorem ref01_Print_loops (R : Type) : ∀ a ∈ loopsOf (codeOf Tryd.f42), LoopOk tt (ref01_Print_E R ref01_Right ref01_text) (ref01_Print_T R ref01_Print_6_0_L ref01_Print_10_0_L) 0 a := by
  refine loops_ok 2 (by kernel_rfl) fun i hi => ?_
  match i, hi with
  | 0, _ => exact loopOk_some (by kernel_rfl) (ref01_Print_6_0_ok _ loopNo_ok)
  | 1, _ => exact loopOk_some (by kernel_rfl) (ref01_Print_10_0_ok _ loopNo_ok)
  | n + 2, hi => omega
theorem ref01_Print_S_ok (R : Type) (other : Yard.Spec R) (ho : Yard.Spec.Ok Tryd.prog 42 other) : Yard.Spec.Ok Tryd.prog 42 (specBy ref01_Print_p ref01_Print_q (ref01_Print_rr ref01_Print) other) :=
  specBy_ok ho (funK_sound TT mixed (ref01_Print_EOk R) (keep := false) rfl rfl rfl rfl 0 (ref01_Print_loops R)) fun (x : Pat.dens ref01_Print_p) (y : HPat.dens ref01_Print_q) k => ref01_Print_ok ref01_Right ref01_text ref01_Print_6_0_L ref01_Print_10_0_L (⟨x.1.1, x.1.2.1⟩ : Dcm) k

/-! ### cmp.isNaN[int] -/
abbrev cmp_isNaN_int_ty (R : Type) : Type := Int → (Bool → Option R) → Option R
abbrev cmp_isNaN_int_p : List Pat := [.leaf (.int .i64)]
abbrev cmp_isNaN_int_q : List HPat := []
noncomputable def cmp_isNaN_int_rr {R : Type} (fn : cmp_isNaN_int_ty R) : Pat.dens cmp_isNaN_int_p → HPat.dens cmp_isNaN_int_q → (V → Heap → Option R) → Option R := fun x y k => fn x.1 (fun q0 => k (.bool q0) [])
noncomputable def cmp_isNaN_int_E (R : Type) : Env R := fun i => match i with
  | _ => none
theorem cmp_isNaN_int_EOk (R : Type) : EOk Tryd.prog (cmp_isNaN_int_E R) := by
  intro i b sp h
  unfold cmp_isNaN_int_E at h
  split at h
  · cases h

noncomputable def cmp_isNaN_int_T (R : Type) : Nat → Option (Hint × LSpec R) := fun i => match i with
  | _ => none

noncomputable def cmp_isNaN_int_X {R : Type} (x1 : Int) (k0 : Bool → Option R) : Option R :=
  k0 (x1 != x1)
noncomputable def cmp_isNaN_int {R : Type} : cmp_isNaN_int_ty R := fun x1 k0 => cmp_isNaN_int_X x1 k0
theorem cmp_isNaN_int_ok {R : Type} (x1 : Int) (k : V → Heap → Option R) : funK tt (cmp_isNaN_int_E R) (cmp_isNaN_int_T R) false Tryd.f95 (codeOf Tryd.f95) [.int .i64 x1] [] k =
    cmp_isNaN_int_X x1 (fun q0 => k (.bool q0) []) := by kernel_rfl
theorem cmp_isNaN_int_loops (R : Type) : ∀ a ∈ loopsOf (codeOf Tryd.f95), LoopOk tt (cmp_isNaN_int_E R) (cmp_isNaN_int_T R) 0 a := by
  refine loops_ok 0 (by kernel_rfl) fun i hi => ?_
  omega
theorem cmp_isNaN_int_S_ok (R : Type) (other : Yard.Spec R) (ho : Yard.Spec.Ok Tryd.prog 95 other) : Yard.Spec.Ok Tryd.prog 95 (specBy cmp_isNaN_int_p cmp_isNaN_int_q (cmp_isNaN_int_rr cmp_isNaN_int) other) :=
  specBy_ok ho (funK_sound TT mixed (cmp_isNaN_int_EOk R) (keep := false) rfl rfl rfl rfl 0 (cmp_isNaN_int_loops R)) fun (x : Pat.dens cmp_isNaN_int_p) (y : HPat.dens cmp_isNaN_int_q) k => cmp_isNaN_int_ok x.1 k

/-! ### cmp.Compare[int] -/
abbrev cmp_Compare_int_ty (R : Type) : Type := Int → Int → (Int → Option R) → Option R
abbrev cmp_Compare_int_p : List Pat := [.leaf (.int .i64), .leaf (.int .i64)]
abbrev cmp_Compare_int_q : List HPat := []
noncomputable def cmp_Compare_int_rr {R : Type} (fn : cmp_Compare_int_ty R) : Pat.dens cmp_Compare_int_p → HPat.dens cmp_Compare_int_q → (V → Heap → Option R) → Option R := fun x y k => fn x.1 x.2.1 (fun q0 => k (.int .i64 q0) [])
noncomputable def cmp_Compare_int_E (R : Type) (cmp_isNaN_int : cmp_isNaN_int_ty R) : Env R := fun i => match i with
  | 95 => some (true, (specBy cmp_isNaN_int_p cmp_isNaN_int_q (cmp_isNaN_int_rr cmp_isNaN_int) specNo))
  | _ => none
theorem cmp_Compare_int_EOk (R : Type) : EOk Tryd.prog (cmp_Compare_int_E R cmp_isNaN_int) := by
  intro i b sp h
  unfold cmp_Compare_int_E at h
  split at h
  · cases h; exact ⟨(cmp_isNaN_int_S_ok R _ (specNo_ok _)), fun h => nomatch h⟩
  · cases h

noncomputable def cmp_Compare_int_T (R : Type) : Nat → Option (Hint × LSpec R) := fun i => match i with
  | _ => none

noncomputable def cmp_Compare_int_X {R : Type} (cmp_isNaN_int : cmp_isNaN_int_ty R) (x1 : Int) (x2 : Int) (k0 : Int → Option R) : Option R :=
  cmp_isNaN_int x1 (fun y3 => cmp_isNaN_int x2 (fun y4 => bif y3 then (bif y4 then (k0 0) else (k0 (-1))) else (bif y4 then (k0 1) else (bif (decide (x1 < x2)) then (k0 (-1)) else (bif (decide (x1 > x2)) then (k0 1) else (k0 0))))))
noncomputable def cmp_Compare_int {R : Type} : cmp_Compare_int_ty R := fun x1 x2 k0 => cmp_Compare_int_X cmp_isNaN_int x1 x2 k0
theorem cmp_Compare_int_ok {R : Type} (cmp_isNaN_int : cmp_isNaN_int_ty R) (x1 : Int) (x2 : Int) (k : V → Heap → Option R) : funK tt (cmp_Compare_int_E R cmp_isNaN_int) (cmp_Compare_int_T R) false Tryd.f66 (codeOf Tryd.f66) [.int .i64 x1, .int .i64 x2] [] k =
    cmp_Compare_int_X cmp_isNaN_int x1 x2 (fun q0 => k (.int .i64 q0) []) := by kernel_rfl
theorem cmp_Compare_int_loops (R : Type) : ∀ a ∈ loopsOf (codeOf Tryd.f66), LoopOk tt (cmp_Compare_int_E R cmp_isNaN_int) (cmp_Compare_int_T R) 0 a := by
  refine loops_ok 0 (by kernel_rfl) fun i hi => ?_
  omega
theorem cmp_Compare_int_S_ok (R : Type) (other : Yard.Spec R) (ho : Yard.Spec.Ok Tryd.prog 66 other) : Yard.Spec.Ok Tryd.prog 66 (specBy cmp_Compare_int_p cmp_Compare_int_q (cmp_Compare_int_rr cmp_Compare_int) other) :=
  specBy_ok ho (funK_sound TT mixed (cmp_Compare_int_EOk R) (keep := false) rfl rfl rfl rfl 0 (cmp_Compare_int_loops R)) fun (x : Pat.dens cmp_Compare_int_p) (y : HPat.dens cmp_Compare_int_q) k => cmp_Compare_int_ok cmp_isNaN_int x.1 x.2.1 k

/-! ### humpyard/decimal.sign -/
abbrev decimal_sign_ty (R : Type) : Type := Int → (Int → Option R) → Option R
abbrev decimal_sign_p : List Pat := [.leaf (.int .i64)]
abbrev decimal_sign_q : List HPat := []
noncomputable def decimal_sign_rr {R : Type} (fn : decimal_sign_ty R) : Pat.dens decimal_sign_p → HPat.dens decimal_sign_q → (V → Heap → Option R) → Option R := fun x y k => fn x.1 (fun q0 => k (.int .i64 q0) [])
noncomputable def decimal_sign_E (R : Type) (cmp_Compare_int : cmp_Compare_int_ty R) : Env R := fun i => match i with
  | 66 => some (true, (specBy cmp_Compare_int_p cmp_Compare_int_q (cmp_Compare_int_rr cmp_Compare_int) specNo))
  | _ => none
theorem decimal_sign_EOk (R : Type) : EOk Tryd.prog (decimal_sign_E R cmp_Compare_int) := by
  intro i b sp h
  unfold decimal_sign_E at h
  split at h
  · cases h; exact ⟨(cmp_Compare_int_S_ok R _ (specNo_ok _)), fun h => nomatch h⟩
  · cases h

noncomputable def decimal_sign_T (R : Type) : Nat → Option (Hint × LSpec R) := fun i => match i with
  | _ => none

noncomputable def decimal_sign_X {R : Type} (cmp_Compare_int : cmp_Compare_int_ty R) (x1 : Int) (k0 : Int → Option R) : Option R :=
  cmp_Compare_int x1 0 (fun y2 => k0 y2)
noncomputable def decimal_sign {R : Type} : decimal_sign_ty R := fun x1 k0 => decimal_sign_X cmp_Compare_int x1 k0
theorem decimal_sign_ok {R : Type} (cmp_Compare_int : cmp_Compare_int_ty R) (x1 : Int) (k : V → Heap → Option R) : funK tt (decimal_sign_E R cmp_Compare_int) (decimal_sign_T R) false Tryd.f65 (codeOf Tryd.f65) [.int .i64 x1] [] k =
    decimal_sign_X cmp_Compare_int x1 (fun q0 => k (.int .i64 q0) []) := by kernel_rfl
theorem decimal_sign_loops (R : Type) : ∀ a ∈ loopsOf (codeOf Tryd.f65), LoopOk tt (decimal_sign_E R cmp_Compare_int) (decimal_sign_T R) 0 a := by
  refine loops_ok 0 (by kernel_rfl) fun i hi => ?_
  omega
theorem decimal_sign_S_ok (R : Type) (other : Yard.Spec R) (ho : Yard.Spec.Ok Tryd.prog 65 other) : Yard.Spec.Ok Tryd.prog 65 (specBy decimal_sign_p decimal_sign_q (decimal_sign_rr decimal_sign) other) :=
  specBy_ok ho (funK_sound TT mixed (decimal_sign_EOk R) (keep := false) rfl rfl rfl rfl 0 (decimal_sign_loops R)) fun (x : Pat.dens decimal_sign_p) (y : HPat.dens decimal_sign_q) k => decimal_sign_ok cmp_Compare_int x.1 k

/-! ### humpyard/decimal.size -/
abbrev decimal_size_ty (R : Type) : Type := Dcm → (Int → Option R) → Option R
abbrev decimal_size_p : List Pat := [.agg [.int .i64, .int .i64]]
abbrev decimal_size_q : List HPat := []
noncomputable def decimal_size_rr {R : Type} (fn : decimal_size_ty R) : Pat.dens decimal_size_p → HPat.dens decimal_size_q → (V → Heap → Option R) → Option R := fun x y k => fn (⟨x.1.1, x.1.2.1⟩ : Dcm) (fun q0 => k (.int .i64 q0) [])
noncomputable def decimal_size_E (R : Type) : Env R := fun i => match i with
  | 56 => some (true, (itoa_S R))
  | _ => none
theorem decimal_size_EOk (R : Type) : EOk Tryd.prog (decimal_size_E R) := by
  intro i b sp h
  unfold decimal_size_E at h
  split at h
  · cases h; exact ⟨(itoa_ok), fun h => nomatch h⟩
  · cases h

noncomputable def decimal_size_T (R : Type) : Nat → Option (Hint × LSpec R) := fun i => match i with
  | _ => none

noncomputable def decimal_size_X {R : Type} (x1 : Dcm) (k0 : Int → Option R) : Option R :=
  k0 (IntKind.i64.wrap (((itoaS (max x1.mant (IntKind.i64.wrap (0 - x1.mant)))).length : Int) + x1.exp))
noncomputable def decimal_size {R : Type} : decimal_size_ty R := fun x1 k0 => decimal_size_X x1 k0
theorem decimal_size_ok {R : Type} (x1 : Dcm) (k : V → Heap → Option R) : funK tt (decimal_size_E R) (decimal_size_T R) false Tryd.f67 (codeOf Tryd.f67) [.agg [.int .i64 x1.mant, .int .i64 x1.exp]] [] k =
    decimal_size_X x1 (fun q0 => k (.int .i64 q0) []) := by kernel_rfl
theorem decimal_size_loops (R : Type) : ∀ a ∈ loopsOf (codeOf Tryd.f67), LoopOk tt (decimal_size_E R) (decimal_size_T R) 0 a := by
  refine loops_ok 0 (by kernel_rfl) fun i hi => ?_
  omega
theorem decimal_size_S_ok (R : Type) (other : Yard.Spec R) (ho : Yard.Spec.Ok Tryd.prog 67 other) : Yard.Spec.Ok Tryd.prog 67 (specBy decimal_size_p decimal_size_q (decimal_size_rr decimal_size) other) :=
  specBy_ok ho (funK_sound TT mixed (decimal_size_EOk R) (keep := false) rfl rfl rfl rfl 0 (decimal_size_loops R)) fun (x : Pat.dens decimal_size_p) (y : HPat.dens decimal_size_q) k => decimal_size_ok (⟨x.1.1, x.1.2.1⟩ : Dcm) k

/-! ### humpyard/decimal.Compare -/
abbrev decimal_Compare_ty (R : Type) : Type := Dcm → Dcm → (Int → Option R) → Option R
abbrev decimal_Compare_p : List Pat := [.agg [.int .i64, .int .i64], .agg [.int .i64, .int .i64]]
abbrev decimal_Compare_q : List HPat := []
noncomputable def decimal_Compare_rr {R : Type} (fn : decimal_Compare_ty R) : Pat.dens decimal_Compare_p → HPat.dens decimal_Compare_q → (V → Heap → Option R) → Option R := fun x y k => fn (⟨x.1.1, x.1.2.1⟩ : Dcm) (⟨x.2.1.1, x.2.1.2.1⟩ : Dcm) (fun q0 => k (.int .i64 q0) [])
noncomputable def decimal_Compare_E (R : Type) (decimal_Right : decimal_Right_ty R) (decimal_sign : decimal_sign_ty R) (cmp_Compare_int : cmp_Compare_int_ty R) (decimal_size : decimal_size_ty R) (decimal_shifted : decimal_shifted_ty R) : Env R := fun i => match i with
  | 30 => some (true, (specBy decimal_Right_p decimal_Right_q (decimal_Right_rr decimal_Right) specNo))
  | 65 => some (true, (specBy decimal_sign_p decimal_sign_q (decimal_sign_rr decimal_sign) specNo))
  | 66 => some (true, (specBy cmp_Compare_int_p cmp_Compare_int_q (cmp_Compare_int_rr cmp_Compare_int) specNo))
  | 67 => some (true, (specBy decimal_size_p decimal_size_q (decimal_size_rr decimal_size) specNo))
  | 68 => some (true, (specBy decimal_shifted_p decimal_shifted_q (decimal_shifted_rr decimal_shifted) specNo))
  | _ => none
theorem decimal_Compare_EOk (R : Type) : EOk Tryd.prog (decimal_Compare_E R decimal_Right decimal_sign cmp_Compare_int decimal_size decimal_shifted) := by
  intro i b sp h
  unfold decimal_Compare_E at h
  split at h
  · cases h; exact ⟨(decimal_Right_S_ok R _ (specNo_ok _)), fun h => nomatch h⟩
  · cases h; exact ⟨(decimal_sign_S_ok R _ (specNo_ok _)), fun h => nomatch h⟩
  · cases h; exact ⟨(cmp_Compare_int_S_ok R _ (specNo_ok _)), fun h => nomatch h⟩
  · cases h; exact ⟨(decimal_size_S_ok R _ (specNo_ok _)), fun h => nomatch h⟩
  · cases h; exact ⟨(decimal_shifted_S_ok R _ (specNo_ok _)), fun h => nomatch h⟩
  · cases h

noncomputable def decimal_Compare_T (R : Type) : Nat → Option (Hint × LSpec R) := fun i => match i with
  | _ => none

noncomputable def decimal_Compare_X {R : Type} (decimal_Right : decimal_Right_ty R) (decimal_sign : decimal_sign_ty R) (cmp_Compare_int : cmp_Compare_int_ty R) (decimal_size : decimal_size_ty R) (decimal_shifted : decimal_shifted_ty R) (x1 : Dcm) (x2 : Dcm) (k0 : Int → Option R) : Option R :=
  decimal_sign x1.mant (fun y3 => let j15 := fun (z6 : Bool) => bif z6 then (k0 0) else (decimal_sign x2.mant (fun y7 => bif (y3 != y7) then (decimal_sign x2.mant (fun y8 => cmp_Compare_int y3 y8 (fun y9 => k0 y9))) else (decimal_size x1 (fun y10 => decimal_size x2 (fun y11 => bif (y10 != y11) then (decimal_size x1 (fun y12 => decimal_size x2 (fun y13 => cmp_Compare_int y12 y13 (fun y14 => k0 (IntKind.i64.wrap (y14 * y3)))))) else (decimal_shifted x1 (min x1.exp x2.exp) (fun y16 y17 => decimal_shifted x2 (min x1.exp x2.exp) (fun y18 y19 => cmp_Compare_int y16 y18 (fun y20 => k0 y20))))))))); decimal_Right x1 (fun y4 => bif (!y4) then (j15 true) else (decimal_Right x2 (fun y5 => j15 (!y5)))))
noncomputable def decimal_Compare {R : Type} : decimal_Compare_ty R := fun x1 x2 k0 => decimal_Compare_X decimal_Right decimal_sign cmp_Compare_int decimal_size decimal_shifted x1 x2 k0
theorem decimal_Compare_ok {R : Type} (decimal_Right : decimal_Right_ty R) (decimal_sign : decimal_sign_ty R) (cmp_Compare_int : cmp_Compare_int_ty R) (decimal_size : decimal_size_ty R) (decimal_shifted : decimal_shifted_ty R) (x1 : Dcm) (x2 : Dcm) (k : V → Heap → Option R) : funK tt (decimal_Compare_E R decimal_Right decimal_sign cmp_Compare_int decimal_size decimal_shifted) (decimal_Compare_T R) false Tryd.f33 (codeOf Tryd.f33) [.agg [.int .i64 x1.mant, .int .i64 x1.exp], .agg [.int .i64 x2.mant, .int .i64 x2.exp]] [] k =
    decimal_Compare_X decimal_Right decimal_sign cmp_Compare_int decimal_size decimal_shifted x1 x2 (fun q0 => k (.int .i64 q0) []) := by kernel_rfl
theorem decimal_Compare_loops (R : Type) : ∀ a ∈ loopsOf (codeOf Tryd.f33), LoopOk tt (decimal_Compare_E R decimal_Right decimal_sign cmp_Compare_int decimal_size decimal_shifted) (decimal_Compare_T R) 0 a := by
  refine loops_ok 0 (by kernel_rfl) fun i hi => ?_
  omega
theorem decimal_Compare_S_ok (R : Type) (other : Yard.Spec R) (ho : Yard.Spec.Ok Tryd.prog 33 other) : Yard.Spec.Ok Tryd.prog 33 (specBy decimal_Compare_p decimal_Compare_q (decimal_Compare_rr decimal_Compare) other) :=
  specBy_ok ho (funK_sound TT mixed (decimal_Compare_EOk R) (keep := false) rfl rfl rfl rfl 0 (decimal_Compare_loops R)) fun (x : Pat.dens decimal_Compare_p) (y : HPat.dens decimal_Compare_q) k => decimal_Compare_ok decimal_Right decimal_sign cmp_Compare_int decimal_size decimal_shifted (⟨x.1.1, x.1.2.1⟩ : Dcm) (⟨x.2.1.1, x.2.1.2.1⟩ : Dcm) k

end Go.Proofs.YtifgegmnngfckaaDoor

/-
  Functions of the program as pure Lean functions, and the ties; printed by wip/tools/emit.py.
-/
set_option maxRecDepth 100000
set_option linter.unusedVariables false
namespace Go.Proofs.YtifgegmnngfckaaDoor
open Go Go.Yard

/-! ### humpyard/humpyardlaw01.DecimalSums -/
abbrev law01_DecimalSums_ty (R : Type) : Type := Arr2 → Arr2 → (Bool → Option R) → Option R
abbrev law01_DecimalSums_p : List Pat := [.agg [.int .i64, .int .i64], .agg [.int .i64, .int .i64]]
abbrev law01_DecimalSums_q : List HPat := []
noncomputable def law01_DecimalSums_rr {R : Type} (fn : law01_DecimalSums_ty R) : Pat.dens law01_DecimalSums_p → HPat.dens law01_DecimalSums_q → (V → Heap → Option R) → Option R := fun x y k => fn (⟨x.1.1, x.1.2.1⟩ : Arr2) (⟨x.2.1.1, x.2.1.2.1⟩ : Arr2) (fun q0 => k (.bool q0) [])
noncomputable def law01_DecimalSums_E (R : Type) (law01_awake : law01_awake_ty R) (law01_Fit : law01_Fit_ty R) (decimal_Compare : decimal_Compare_ty R) (decimal_Add : decimal_Add_ty R) : Env R := fun i => match i with
  | 26 => some (true, (specBy law01_awake_p law01_awake_q (law01_awake_rr law01_awake) specNo))
  | 27 => some (true, (specBy law01_Fit_p law01_Fit_q (law01_Fit_rr law01_Fit) specNo))
  | 33 => some (true, (specBy decimal_Compare_p decimal_Compare_q (decimal_Compare_rr decimal_Compare) specNo))
  | 37 => some (true, (specBy decimal_Add_p decimal_Add_q (decimal_Add_rr decimal_Add) specNo))
  | _ => none
theorem law01_DecimalSums_EOk (R : Type) : EOk Tryd.prog (law01_DecimalSums_E R law01_awake law01_Fit decimal_Compare decimal_Add) := by
  intro i b sp h
  unfold law01_DecimalSums_E at h
  split at h
  · cases h; exact ⟨(law01_awake_S_ok R _ (specNo_ok _)), fun h => nomatch h⟩
  · cases h; exact ⟨(law01_Fit_S_ok R _ (specNo_ok _)), fun h => nomatch h⟩
  · cases h; exact ⟨(decimal_Compare_S_ok R _ (specNo_ok _)), fun h => nomatch h⟩
  · cases h; exact ⟨(decimal_Add_S_ok R _ (specNo_ok _)), fun h => nomatch h⟩
  · cases h

noncomputable def law01_DecimalSums_T (R : Type) : Nat → Option (Hint × LSpec R) := fun i => match i with
  | _ => none

noncomputable def law01_DecimalSums_X {R : Type} (law01_awake : law01_awake_ty R) (law01_Fit : law01_Fit_ty R) (decimal_Compare : decimal_Compare_ty R) (decimal_Add : decimal_Add_ty R) (x1 : Arr2) (x2 : Arr2) (k0 : Bool → Option R) : Option R :=
  law01_awake (fun y3 => law01_Fit x1.a x1.b (fun y4 => law01_Fit x2.a x2.b (fun y5 => decimal_Add y4 y5 (fun y6 y7 => decimal_Add y5 y4 (fun y8 y9 => decimal_Add y4 (⟨(IntKind.i64.wrap (0 - y4.mant)), y4.exp⟩ : Dcm) (fun y10 y11 => bif (!y3) then (k0 false) else (bif (!(y7 == y9)) then (k0 false) else (bif (!(y6.mant == y8.mant && (y6.exp == y8.exp && true))) then (k0 false) else (bif (!y11) then (k0 false) else (bif (!(y10.mant == 0 && (y10.exp == 0 && true))) then (k0 false) else (bif (!y7) then (k0 (y6.mant == 0 && (y6.exp == 0 && true))) else (decimal_Add y6 (⟨(IntKind.i64.wrap (0 - y5.mant)), y5.exp⟩ : Dcm) (fun y13 y14 => bif y14 then (bif (y13.mant == y4.mant && (y13.exp == y4.exp && true)) then (decimal_Compare y6 y4 (fun y15 => decimal_Compare y5 (⟨0, 0⟩ : Dcm) (fun y16 => k0 (y15 == y16)))) else (k0 false)) else (k0 false))))))))))))))
noncomputable def law01_DecimalSums {R : Type} : law01_DecimalSums_ty R := fun x1 x2 k0 => law01_DecimalSums_X law01_awake law01_Fit decimal_Compare decimal_Add x1 x2 k0
theorem law01_DecimalSums_ok {R : Type} (law01_awake : law01_awake_ty R) (law01_Fit : law01_Fit_ty R) (decimal_Compare : decimal_Compare_ty R) (decimal_Add : decimal_Add_ty R) (x1 : Arr2) (x2 : Arr2) (k : V → Heap → Option R) : funK tt (law01_DecimalSums_E R law01_awake law01_Fit decimal_Compare decimal_Add) (law01_DecimalSums_T R) false Tryd.f16 (codeOf Tryd.f16) [.agg [.int .i64 x1.a, .int .i64 x1.b], .agg [.int .i64 x2.a, .int .i64 x2.b]] [] k =
    law01_DecimalSums_X law01_awake law01_Fit decimal_Compare decimal_Add x1 x2 (fun q0 => k (.bool q0) []) := by kernel_rfl
theorem law01_DecimalSums_loops (R : Type) : ∀ a ∈ loopsOf (codeOf Tryd.f16), LoopOk tt (law01_DecimalSums_E R law01_awake law01_Fit decimal_Compare decimal_Add) (law01_DecimalSums_T R) 0 a := by
  refine loops_ok 0 (by kernel_rfl) fun i hi => ?_
  omega
theorem law01_DecimalSums_S_ok (R : Type) (other : Yard.Spec R) (ho : Yard.Spec.Ok Tryd.prog 16 other) : Yard.Spec.Ok Tryd.prog 16 (specBy law01_DecimalSums_p law01_DecimalSums_q (law01_DecimalSums_rr law01_DecimalSums) other) :=
  specBy_ok ho (funK_sound TT mixed (law01_DecimalSums_EOk R) (keep := false) rfl rfl rfl rfl 0 (law01_DecimalSums_loops R)) fun (x : Pat.dens law01_DecimalSums_p) (y : HPat.dens law01_DecimalSums_q) k => law01_DecimalSums_ok law01_awake law01_Fit decimal_Compare decimal_Add (⟨x.1.1, x.1.2.1⟩ : Arr2) (⟨x.2.1.1, x.2.1.2.1⟩ : Arr2) k

end Go.Proofs.YtifgegmnngfckaaDoor

/-
  Decimals: sums and order; DecimalSums. Own work.
-/
set_option linter.unusedVariables false
set_option maxRecDepth 100000
namespace Go.Proofs.YtifgegmnngfckaaDoor
open Go Go.Yard Go.Lib

/-- A decimal in its form. -/
def Fm (d : Dcm) : Prop := (d.mant = 0 ∧ d.exp = 0) ∨ (Int.tmod d.mant 10 ≠ 0 ∧ -1000000000000000 ≤ d.mant ∧ d.mant ≤ 1000000000000000 ∧ -9 ≤ d.exp ∧ d.exp ≤ 9)

theorem Fm.bounds {d : Dcm} (h : Fm d) : -1000000000000000 ≤ d.mant ∧ d.mant ≤ 1000000000000000 ∧ -9 ≤ d.exp ∧ d.exp ≤ 9 := by
  rcases h with h | h <;> omega
theorem Fm.nz {d : Dcm} (h : Fm d) (h0 : d.mant ≠ 0) : Int.tmod d.mant 10 ≠ 0 := by
  rcases h with h | h
  · exact (h0 h.1).elim
  · exact h.1
theorem Fm.zero {d : Dcm} (h : Fm d) (h0 : d.mant = 0) : d = ⟨0, 0⟩ := by
  rcases h with h | h
  · cases d; simp only at h; rw [h.1, h.2]
  · exact (h.1 (by rw [h0]; rfl)).elim
theorem Fm.mk0 : Fm ⟨0, 0⟩ := .inl ⟨rfl, rfl⟩
theorem tmod_neg {m : Int} (h : Int.tmod m 10 ≠ 0) : Int.tmod (-m) 10 ≠ 0 := by rw [Int.neg_tmod]; omega
theorem Fm.neg {d : Dcm} (h : Fm d) : Fm ⟨-d.mant, d.exp⟩ := by
  rcases h with h | h
  · exact .inl ⟨by simp only; omega, h.2⟩
  · exact .inr ⟨tmod_neg h.1, by simp only; omega, by simp only; omega, h.2.2.2⟩

theorem right_ok {R : Type} {d : Dcm} (h : Fm d) (k : Bool → Option R) : decimal_Right d k = k true := by
  rcases h with h | h
  · have e : decimal_Right d k = decimal_Right_X decimal_within_int d k := rfl
    rw [e]
    unfold decimal_Right_X
    rw [h.1, h.2]
    rfl
  · cases d; exact right_mk h.1 h.2 k

theorem fit_loop {R : Type} (x : Int) (d : Dcm) (e0 : Int → Int → Dcm → Option R) : ∀ (j n : Nat) (u : Int), j < n → Int.tmod u 10 ≠ 0 → I64 (u * 10 ^ j) →
    law01_Fit_3_0_L n (u * 10 ^ j) x d e0 = e0 u x d := by
  intro j
  induction j with
  | zero =>
    intro n u hn hu hb
    obtain ⟨m, rfl⟩ : ∃ m, n = m + 1 := ⟨n - 1, by omega⟩
    have e : law01_Fit_3_0_L (m + 1) (u * 10 ^ 0) x d e0 = law01_Fit_3_0_B (fun x0' x1' x2' => law01_Fit_3_0_L m x0' x1' x2' e0) (u * 10 ^ 0) x d e0 := rfl
    rw [e]
    unfold law01_Fit_3_0_B
    have e1 : u * 10 ^ 0 = u := by simp
    have e2 : (Int.tmod u 10 == 0) = false := by rw [beq_eq_false_iff_ne]; exact hu
    have e3 : (u != 0) = true := bne_iff_ne.2 (by rintro rfl; exact hu rfl)
    rw [e1, e3, cond_true, e2, cond_false]
  | succ j ih =>
    intro n u hn hu hb
    obtain ⟨m, rfl⟩ : ∃ m, n = m + 1 := ⟨n - 1, by omega⟩
    have e : law01_Fit_3_0_L (m + 1) (u * 10 ^ (j + 1)) x d e0 = law01_Fit_3_0_B (fun x0' x1' x2' => law01_Fit_3_0_L m x0' x1' x2' e0) (u * 10 ^ (j + 1)) x d e0 := rfl
    rw [e]
    unfold law01_Fit_3_0_B
    have ep : u * 10 ^ (j + 1) = u * 10 ^ j * 10 := by rw [Int.pow_succ, Int.mul_assoc]
    have hu0 : u ≠ 0 := by rintro rfl; exact hu rfl
    have hab := abs_le_mul u (j + 1)
    have e3 : (u * 10 ^ (j + 1) != 0) = true := bne_iff_ne.2 (by omega)
    unfold I64 at hb
    rw [e3, cond_true]
    rw [ep] at hb ⊢
    have e1 : (Int.tmod (u * 10 ^ j * 10) 10 == 0) = true := by rw [Int.mul_tmod_left]; rfl
    have e2 : Int.tdiv (u * 10 ^ j * 10) 10 = u * 10 ^ j := Int.mul_tdiv_cancel _ (by omega)
    rw [e1, cond_true, e2, wrap_id (n := u * 10 ^ j) (by omega) (by omega)]
    exact ih m u (by omega) hu (by unfold I64; omega)

theorem fit_ok {R : Type} (a b : Int) (ha : I64 a) (hb : I64 b) : ∃ d : Dcm, Fm d ∧ ∀ k : Dcm → Option R, law01_Fit a b k = k d := by
  obtain ⟨m, m0, m1, hm⟩ := pick01 (R := R) a 2000000000000001 ha (by omega) (by omega)
  obtain ⟨x, x0, x1, hx⟩ := pick01 (R := R) b 19 hb (by omega) (by omega)
  have e : ∀ k : Dcm → Option R, law01_Fit a b k = law01_Fit_X law01_pick law01_Fit_3_0_L a b k := fun _ => rfl
  by_cases h0 : m - 1000000000000000 = 0
  · refine ⟨⟨0, 0⟩, .mk0, fun k => ?_⟩
    rw [e]
    unfold law01_Fit_X
    rw [hm, hx, wrap_id (n := m - 1000000000000000) (by omega) (by omega), h0]
    rfl
  · obtain ⟨j, u, hu, hd⟩ := strip_ex ((m - 1000000000000000).natAbs + 1) _ h0 (by omega)
    have hab := abs_le_mul u j
    have hb64 : I64 (u * 10 ^ j) := by unfold I64; omega
    have h64 := noughts_64 (by rintro rfl; exact hd rfl) hb64
    refine ⟨⟨u, x - 9⟩, .inr ⟨hd, by simp only; omega, by simp only; omega, by simp only; omega, by simp only; omega⟩, fun k => ?_⟩
    rw [e]
    unfold law01_Fit_X
    rw [hm, hx, wrap_id (n := m - 1000000000000000) (by omega) (by omega), wrap_id (n := x - 9) (by omega) (by omega)]
    have key := fun (F : Nat) (hF : j < F) => fit_loop (R := R) (x - 9) ⟨0, 0⟩ (fun y9 y10 y11 => bif (y9 == 0) then (k (⟨y9, 0⟩ : Dcm)) else (k (⟨y9, y10⟩ : Dcm))) j F u hF hd hb64
    rw [← hu] at key
    rw [key _ (by omega)]
    have e0 : (u == 0) = false := by rw [beq_eq_false_iff_ne]; rintro rfl; exact hd rfl
    rw [e0]
    rfl

/-! ### shifted -/
def shiftP : Int → Nat → Option Int
  | m, 0 => some m
  | m, j + 1 => if -100000000000000000 ≤ m ∧ m ≤ 100000000000000000 then shiftP (m * 10) j else none

theorem shiftP_val : ∀ (j : Nat) (m v : Int), shiftP m j = some v → v = m * 10 ^ j
  | 0, m, v, h => by cases h; simp
  | j + 1, m, v, h => by
    simp only [shiftP] at h
    split at h
    · rw [shiftP_val j _ _ h, Int.pow_succ, Int.mul_assoc, Int.mul_comm 10]
    · cases h
theorem shiftP_le : ∀ (j : Nat) (m v : Int), shiftP m j = some v → m.natAbs ≤ 1000000000000000000 → v.natAbs ≤ 1000000000000000000
  | 0, m, v, h, hm => by cases h; exact hm
  | j + 1, m, v, h, hm => by
    simp only [shiftP] at h
    split at h
    · exact shiftP_le j _ _ h (by omega)
    · cases h
theorem shiftP_neg : ∀ (j : Nat) (m v : Int), shiftP m j = some v → shiftP (-m) j = some (-v)
  | 0, m, v, h => by cases h; rfl
  | j + 1, m, v, h => by
    simp only [shiftP] at h ⊢
    split at h
    · rw [if_pos (by omega)]
      have := shiftP_neg j _ _ h
      rw [show -(m * 10) = -m * 10 by omega] at this
      exact this
    · cases h
theorem shiftP_fits : ∀ (j : Nat) (m : Int), (m * 10 ^ j).natAbs ≤ 1000000000000000000 → shiftP m j = some (m * 10 ^ j)
  | 0, m, _ => by simp [shiftP]
  | j + 1, m, h => by
    have e : m * 10 ^ (j + 1) = m * 10 * 10 ^ j := by rw [Int.pow_succ, Int.mul_assoc, Int.mul_comm 10]
    have h2 := abs_le_mul (m * 10) j
    rw [e] at h ⊢
    simp only [shiftP]
    rw [if_pos (by omega)]
    exact shiftP_fits j _ h

theorem shift_loop {R : Type} (J : Int) (hJ : J ≤ 1000) (e0 : Int → Option R) (e1 : Int → Bool → Int → Option R) : ∀ (j n i : Nat) (m : Int), j < n → (i : Int) + j = J → m.natAbs ≤ 1000000000000000000 →
    match shiftP m j with
    | some v => decimal_shifted_3_0_L n m J (i : Int) e0 e1 = e0 v
    | none => ∃ w, decimal_shifted_3_0_L n m J (i : Int) e0 e1 = e1 0 false w := by
  intro j
  induction j with
  | zero =>
    intro n i m hn hi hm
    obtain ⟨n, rfl⟩ : ∃ q, n = q + 1 := ⟨n - 1, by omega⟩
    have e : decimal_shifted_3_0_L (n + 1) m J (i : Int) e0 e1 = decimal_shifted_3_0_B decimal_within_int (fun x0' x1' x2' => decimal_shifted_3_0_L n x0' x1' x2' e0 e1) m J (i : Int) e0 e1 := rfl
    simp only [shiftP]
    rw [e]
    unfold decimal_shifted_3_0_B
    rw [dfalse (show ¬ (i : Int) < J by omega), cond_false]
  | succ j ih =>
    intro n i m hn hi hm
    obtain ⟨n, rfl⟩ : ∃ q, n = q + 1 := ⟨n - 1, by omega⟩
    have e : decimal_shifted_3_0_L (n + 1) m J (i : Int) e0 e1 = decimal_shifted_3_0_B decimal_within_int (fun x0' x1' x2' => decimal_shifted_3_0_L n x0' x1' x2' e0 e1) m J (i : Int) e0 e1 := rfl
    simp only [shiftP]
    rw [e]
    unfold decimal_shifted_3_0_B
    rw [dtrue (show (i : Int) < J by omega), cond_true, within_ok]
    by_cases h : -100000000000000000 ≤ m ∧ m ≤ 100000000000000000
    · rw [dtrue h.1, dtrue h.2, if_pos h, wrap_id (n := m * 10) (by omega) (by omega), wrap_id (n := (i : Int) + 1) (by omega) (by omega)]
      exact ih n (i + 1) (m * 10) (by omega) (by omega) (by omega)
    · rw [if_neg h]
      have : (decide (-100000000000000000 ≤ m) && decide (m ≤ 100000000000000000)) = false := by
        rw [Bool.and_eq_false_iff, decide_eq_false_iff_not, decide_eq_false_iff_not]; omega
      rw [this]
      exact ⟨m, rfl⟩

theorem shifted_ok {R : Type} {d : Dcm} (h : Fm d) {x : Int} (h1 : x ≤ d.exp) (h2 : -900 ≤ x) (k : Int → Bool → Option R) :
    decimal_shifted d x k = match shiftP d.mant (d.exp - x).toNat with | some v => k v true | none => k 0 false := by
  have hb := h.bounds
  have e : decimal_shifted d x k = decimal_shifted_X decimal_shifted_3_0_L d x k := rfl
  rw [e]
  unfold decimal_shifted_X
  rw [wrap_id (n := d.exp - x) (by omega) (by omega)]
  have key := shift_loop (R := R) (d.exp - x) (by omega) (fun y7 => k y7 true) (fun y8 y9 y10 => k y8 y9) (d.exp - x).toNat (Int.natAbs d.mant + Int.natAbs (d.exp - x) + Int.natAbs 0 + 64) 0 d.mant (by omega) (by omega) (by omega)
  cases hs : shiftP d.mant (d.exp - x).toNat with
  | some v => rw [hs] at key; exact key
  | none => rw [hs] at key; obtain ⟨w, key⟩ := key; exact key

end Go.Proofs.YtifgegmnngfckaaDoor

/-
  Decimals: Add, Compare; DecimalSums. Own work.
-/
set_option linter.unusedVariables false
set_option maxRecDepth 100000
namespace Go.Proofs.YtifgegmnngfckaaDoor
open Go Go.Yard Go.Lib

/-- What Make makes of a number and an exponent. -/
def Made (m x : Int) (r : Dcm × Bool) : Prop := (m = 0 ∧ r = (⟨0, 0⟩, true)) ∨ ∃ (u : Int) (j : Nat), m = u * 10 ^ j ∧ Int.tmod u 10 ≠ 0 ∧ r = mkD u (x + j)

theorem make_any {R : Type} (m x : Int) (hm : I64 m) (h1 : -4000000000000000000 ≤ x) (h2 : x ≤ 1000000) : ∃ r : Dcm × Bool, Made m x r ∧ ∀ k : Dcm → Bool → Option R, decimal_Make m x k = k r.1 r.2 := by
  by_cases h0 : m = 0
  · subst h0
    exact ⟨_, .inl ⟨rfl, rfl⟩, fun k => make_zero x k⟩
  · obtain ⟨j, u, hu, hd⟩ := strip_ex (m.natAbs + 1) m h0 (by omega)
    exact ⟨_, .inr ⟨u, j, hu, hd, rfl⟩, fun k => by subst hu; exact make_ok u j x hd hm h1 h2 k⟩

theorem add_nz {R : Type} {x y : Dcm} (hx : Fm x) (hy : Fm y) (x0 : x.mant ≠ 0) (y0 : y.mant ≠ 0) (k : Dcm → Bool → Option R) :
    decimal_Add x y k = match shiftP x.mant (x.exp - min x.exp y.exp).toNat, shiftP y.mant (y.exp - min x.exp y.exp).toNat with
      | some X, some Y => decimal_Make (IntKind.i64.wrap (X + Y)) (min x.exp y.exp) k
      | _, _ => k ⟨0, 0⟩ false := by
  have bx := hx.bounds
  have by' := hy.bounds
  have e : decimal_Add x y k = decimal_Add_X decimal_Right decimal_Make decimal_shifted x y k := rfl
  rw [e]
  unfold decimal_Add_X
  have e1 : (x.mant == 0) = false := by rw [beq_eq_false_iff_ne]; exact x0
  have e2 : (y.mant == 0) = false := by rw [beq_eq_false_iff_ne]; exact y0
  rw [right_ok hx, Bool.not_true, cond_false, right_ok hy, Bool.not_true, cond_false, e1, cond_false, e2, cond_false, shifted_ok hx (by omega) (by omega)]
  cases hX : shiftP x.mant (x.exp - min x.exp y.exp).toNat with
  | none =>
    simp only
    rw [shifted_ok hy (by omega) (by omega)]
    cases hY : shiftP y.mant (y.exp - min x.exp y.exp).toNat <;> rfl
  | some X =>
    simp only
    rw [shifted_ok hy (by omega) (by omega)]
    cases hY : shiftP y.mant (y.exp - min x.exp y.exp).toNat <;> rfl

theorem add_z {R : Type} {x y : Dcm} (hx : Fm x) (hy : Fm y) (h0 : x.mant = 0 ∨ y.mant = 0) (k : Dcm → Bool → Option R) :
    decimal_Add x y k = k ⟨x.mant + y.mant, x.exp + y.exp⟩ true := by
  have bx := hx.bounds
  have by' := hy.bounds
  have e : decimal_Add x y k = decimal_Add_X decimal_Right decimal_Make decimal_shifted x y k := rfl
  rw [e]
  unfold decimal_Add_X
  rw [right_ok hx, Bool.not_true, cond_false, right_ok hy, Bool.not_true, cond_false, wrap_id (n := x.mant + y.mant) (by omega) (by omega), wrap_id (n := x.exp + y.exp) (by omega) (by omega)]
  by_cases h : x.mant = 0
  · have e1 : (x.mant == 0) = true := by rw [h]; rfl
    rw [e1, cond_true]
  · have e1 : (x.mant == 0) = false := by rw [beq_eq_false_iff_ne]; exact h
    have e2 : (y.mant == 0) = true := by rcases h0 with h0 | h0; exact (h h0).elim; rw [h0]; rfl
    rw [e1, cond_false, e2, cond_true]

/-! ### Compare -/
def sgn (z : Int) : Int := if z < 0 then -1 else if z > 0 then 1 else 0
theorem cmp_ok {R : Type} (a b : Int) (k : Int → Option R) : cmp_Compare_int a b k = k (sgn (a - b)) := by
  have e : cmp_Compare_int a b k = cmp_Compare_int_X cmp_isNaN_int a b k := rfl
  have n : ∀ (x : Int) (f : Bool → Option R), cmp_isNaN_int x f = f (x != x) := fun _ _ => rfl
  rw [e]
  unfold cmp_Compare_int_X
  have ne : ∀ x : Int, (x != x) = false := fun x => by simp
  rw [n, n, ne, ne]
  simp only [cond_false]
  unfold sgn
  by_cases h1 : a < b
  · rw [dtrue h1, cond_true, if_pos (by omega)]
  · rw [dfalse h1, cond_false, if_neg (by omega)]
    by_cases h2 : a > b
    · rw [dtrue h2, cond_true, if_pos (by omega)]
    · rw [dfalse h2, cond_false, if_neg (by omega)]

/-- A decimal's value, in units of 10^-9. -/
def val (d : Dcm) : Int := d.mant * 10 ^ (d.exp + 9).toNat

theorem pow_split (a b : Int) (h1 : 0 ≤ a) (h2 : 0 ≤ b) : (10 : Int) ^ (a + b).toNat = 10 ^ a.toNat * 10 ^ b.toNat := by
  rw [← Int.pow_add]
  congr 1
  omega

theorem val_shift {d : Dcm} (h : Fm d) {x : Int} (h1 : x ≤ d.exp) (h2 : -9 ≤ x) : val d = d.mant * 10 ^ (d.exp - x).toNat * 10 ^ (x + 9).toNat := by
  unfold val
  rw [Int.mul_assoc, ← pow_split _ _ (by omega) (by omega)]
  congr 3
  omega

theorem sgn_mul (z p : Int) (hp : 1 ≤ p) : sgn (z * p) = sgn z := by
  unfold sgn
  by_cases h1 : z < 0
  · rw [if_pos h1, if_pos (Int.mul_neg_of_neg_of_pos h1 (by omega))]
  · rw [if_neg h1]
    by_cases h2 : z > 0
    · have := Int.mul_pos h2 (show 0 < p by omega)
      rw [if_pos h2, if_neg (by omega), if_pos this]
    · have : z = 0 := by omega
      subst this
      simp

theorem pow_mono {a b : Nat} (h : a ≤ b) : (10 : Int) ^ a ≤ 10 ^ b := by
  have : (10 : Int) ^ b = 10 ^ a * 10 ^ (b - a) := by rw [← Int.pow_add]; congr 1; omega
  rw [this]
  have h1 := pow_pos10 a
  have h2 := pow_pos10 (b - a)
  calc (10 : Int) ^ a = 10 ^ a * 1 := by simp
    _ ≤ 10 ^ a * 10 ^ (b - a) := Int.mul_le_mul_of_nonneg_left h2 (by omega)

theorem nDigits_low (u : Nat) (h : 0 < u) : 10 ^ (nDigits u - 1) ≤ u := by
  induction u using Nat.strongRecOn with
  | _ u ih =>
    by_cases h1 : u < 10
    · rw [nDigits_small h1]; exact h
    · rw [nDigits_big h1, Nat.add_sub_cancel]
      have h2 := ih (u / 10) (by omega) (by omega)
      have h3 := nDigits_pos (u / 10)
      have e : nDigits (u / 10) = (nDigits (u / 10) - 1) + 1 := by omega
      rw [e, Nat.pow_succ]
      omega

theorem size_ok {R : Type} {d : Dcm} (h : Fm d) (k : Int → Option R) : decimal_size d k = k ((nDigits d.mant.natAbs : Int) + d.exp) := by
  have b := h.bounds
  have e : decimal_size d k = k (IntKind.i64.wrap (((itoaS (max d.mant (IntKind.i64.wrap (0 - d.mant)))).length : Int) + d.exp)) := rfl
  rw [e, wrap_id (n := 0 - d.mant) (by omega) (by omega)]
  have hm : max d.mant (0 - d.mant) = (d.mant.natAbs : Int) := by omega
  have hl := nDigits_le20 d.mant.natAbs (by omega)
  rw [hm]
  have : itoaS (d.mant.natAbs : Int) = decDigits d.mant.natAbs := itoa_nonneg _
  rw [this, decDigits_length, wrap_id (by omega) (by omega)]

theorem digits16 {u : Nat} (h : u ≤ 1000000000000000) : nDigits u ≤ 16 := by
  rcases Nat.eq_zero_or_pos u with rfl | h0
  · rw [nDigits_small (by omega)]; omega
  · have h1 := nDigits_low u h0
    rcases Nat.lt_or_ge (nDigits u) 17 with h2 | h2
    · omega
    · have h3 : (10 : Nat) ^ 16 ≤ 10 ^ (nDigits u - 1) := Nat.pow_le_pow_right (by omega) (by omega)
      have e : (10 : Nat) ^ 16 = 10000000000000000 := rfl
      omega

/-- Between its powers of ten. -/
theorem val_range {d : Dcm} (h : Fm d) (h0 : d.mant ≠ 0) :
    (10 : Int) ^ (nDigits d.mant.natAbs + d.exp + 8).toNat ≤ (val d).natAbs ∧ ((val d).natAbs : Int) < 10 ^ (nDigits d.mant.natAbs + d.exp + 9).toNat := by
  have b := h.bounds
  have hp := nDigits_pos d.mant.natAbs
  have hv : ((val d).natAbs : Int) = (d.mant.natAbs : Int) * 10 ^ (d.exp + 9).toNat := by
    unfold val
    rw [Int.natAbs_mul]
    have := pow_pos10 (d.exp + 9).toNat
    push_cast
    congr 1 <;> omega
  have hq := pow_pos10 (d.exp + 9).toNat
  have l := nDigits_low d.mant.natAbs (by omega)
  have u := lt_pow_nDigits d.mant.natAbs
  have l' : (10 : Int) ^ (nDigits d.mant.natAbs - 1) ≤ (d.mant.natAbs : Int) := by exact_mod_cast l
  have u' : (d.mant.natAbs : Int) + 1 ≤ (10 : Int) ^ nDigits d.mant.natAbs := by exact_mod_cast u
  constructor
  · have e : (10 : Int) ^ (nDigits d.mant.natAbs + d.exp + 8).toNat = 10 ^ (nDigits d.mant.natAbs - 1) * 10 ^ (d.exp + 9).toNat := by
      rw [← Int.pow_add]; congr 1 <;> omega
    rw [e, hv]
    exact Int.mul_le_mul_of_nonneg_right l' (by omega)
  · have e : (10 : Int) ^ (nDigits d.mant.natAbs + d.exp + 9).toNat = 10 ^ nDigits d.mant.natAbs * 10 ^ (d.exp + 9).toNat := by
      rw [← Int.pow_add]; congr 1 <;> omega
    rw [e, hv]
    have := Int.mul_le_mul_of_nonneg_right u' (show 0 ≤ (10 : Int) ^ (d.exp + 9).toNat by omega)
    rw [Int.add_mul, Int.one_mul] at this
    omega

theorem val_sgn {d : Dcm} : sgn (val d) = sgn d.mant := sgn_mul _ _ (pow_pos10 _)

theorem shift_small {d : Dcm} (h : Fm d) {x : Int} (h1 : x ≤ d.exp) (hs : (nDigits d.mant.natAbs : Int) + (d.exp - x) ≤ 16) : shiftP d.mant (d.exp - x).toNat = some (d.mant * 10 ^ (d.exp - x).toNat) := by
  apply shiftP_fits
  rw [Int.natAbs_mul]
  have u := lt_pow_nDigits d.mant.natAbs
  have hq := pow_pos10 (d.exp - x).toNat
  have e : ((10 : Int) ^ (d.exp - x).toNat).natAbs = 10 ^ (d.exp - x).toNat := by rw [Int.natAbs_pow]; rfl
  rw [e]
  have h3 : d.mant.natAbs * 10 ^ (d.exp - x).toNat ≤ 10 ^ nDigits d.mant.natAbs * 10 ^ (d.exp - x).toNat := Nat.mul_le_mul_right _ (by omega)
  rw [← Nat.pow_add] at h3
  have h4 : (10 : Nat) ^ (nDigits d.mant.natAbs + (d.exp - x).toNat) ≤ 10 ^ 16 := Nat.pow_le_pow_right (by omega) (by omega)
  have e16 : (10 : Nat) ^ 16 = 10000000000000000 := rfl
  omega

theorem compare_ok {R : Type} {a b : Dcm} (ha : Fm a) (hb : Fm b) (k : Int → Option R) : decimal_Compare a b k = k (sgn (val a - val b)) := by
  have ba := ha.bounds
  have bb := hb.bounds
  have e : decimal_Compare a b k = decimal_Compare_X decimal_Right decimal_sign cmp_Compare_int decimal_size decimal_shifted a b k := rfl
  rw [e]
  unfold decimal_Compare_X
  have sg : ∀ (m : Int) (f : Int → Option R), decimal_sign m f = f (sgn m) := fun m f => by
    have e : decimal_sign m f = cmp_Compare_int m 0 (fun y2 => f y2) := rfl
    rw [e, cmp_ok, Int.sub_zero]
  have va := val_sgn (d := a)
  have vb := val_sgn (d := b)
  have s3 : ∀ z : Int, (z < 0 ∧ sgn z = -1) ∨ (z = 0 ∧ sgn z = 0) ∨ (0 < z ∧ sgn z = 1) := fun z => by
    unfold sgn
    by_cases h1 : z < 0
    · exact .inl ⟨h1, by rw [if_pos h1]⟩
    · by_cases h2 : z > 0
      · exact .inr (.inr ⟨h2, by rw [if_neg h1, if_pos h2]⟩)
      · exact .inr (.inl ⟨by omega, by rw [if_neg h1, if_neg h2]⟩)
  have sneg : ∀ z : Int, z < 0 → sgn z = -1 := fun z h => by unfold sgn; rw [if_pos h]
  have spos : ∀ z : Int, 0 < z → sgn z = 1 := fun z h => by unfold sgn; rw [if_neg (by omega), if_pos h]
  simp only [sg, right_ok ha, right_ok hb, Bool.not_true, cond_false, size_ok ha, size_ok hb, cmp_ok]
  by_cases hs : sgn a.mant = sgn b.mant
  · have hs' : (sgn a.mant != sgn b.mant) = false := by rw [hs]; simp
    rw [hs', cond_false]
    by_cases hz : (nDigits a.mant.natAbs : Int) + a.exp = (nDigits b.mant.natAbs : Int) + b.exp
    · have hz' : (((nDigits a.mant.natAbs : Int) + a.exp) != ((nDigits b.mant.natAbs : Int) + b.exp)) = false := by rw [hz]; simp
      rw [hz', cond_false, shifted_ok ha (by omega) (by omega)]
      have pa := nDigits_pos a.mant.natAbs
      have pb := nDigits_pos b.mant.natAbs
      have da := digits16 (u := a.mant.natAbs) (by omega)
      have db := digits16 (u := b.mant.natAbs) (by omega)
      rw [shift_small ha (by omega) (by omega)]
      simp only
      rw [shifted_ok hb (by omega) (by omega), shift_small hb (by omega) (by omega)]
      simp only
      rw [val_shift ha (x := min a.exp b.exp) (by omega) (by omega), val_shift hb (x := min a.exp b.exp) (by omega) (by omega), ← Int.sub_mul, sgn_mul _ _ (pow_pos10 _)]
    · have hz' : (((nDigits a.mant.natAbs : Int) + a.exp) != ((nDigits b.mant.natAbs : Int) + b.exp)) = true := bne_iff_ne.2 hz
      rw [hz', cond_true]
      have a0 : a.mant ≠ 0 := by
        intro h
        have h2 : b.mant = 0 := by
          rw [h] at hs
          rcases s3 b.mant with ⟨g1, g2⟩ | ⟨g1, g2⟩ | ⟨g1, g2⟩
          · rw [g2] at hs; exact absurd hs (by decide)
          · exact g1
          · rw [g2] at hs; exact absurd hs (by decide)
        rw [ha.zero h, hb.zero h2] at hz
        exact hz rfl
      have b0 : b.mant ≠ 0 := by
        intro h
        rw [h] at hs
        rcases s3 a.mant with ⟨g1, g2⟩ | ⟨g1, g2⟩ | ⟨g1, g2⟩
        · rw [g2] at hs; exact absurd hs (by decide)
        · exact a0 g1
        · rw [g2] at hs; exact absurd hs (by decide)
      obtain ⟨la, ua⟩ := val_range ha a0
      obtain ⟨lb, ub⟩ := val_range hb b0
      have pa := nDigits_pos a.mant.natAbs
      have pb := nDigits_pos b.mant.natAbs
      congr 1
      rcases s3 a.mant with ⟨g1, g2⟩ | ⟨g1, g2⟩ | ⟨g1, g2⟩
      · -- both below
        have vna : sgn (val a) = -1 := by rw [va, g2]
        have vnb : sgn (val b) = -1 := by rw [vb, ← hs, g2]
        have na : val a < 0 := by rcases s3 (val a) with h | h | h <;> first | exact h.1 | (rw [h.2] at vna; exact absurd vna (by decide))
        have nb : val b < 0 := by rcases s3 (val b) with h | h | h <;> first | exact h.1 | (rw [h.2] at vnb; exact absurd vnb (by decide))
        rw [g2]
        rcases Int.lt_or_gt_of_ne hz with h | h
        · have hp := pow_mono (show ((nDigits a.mant.natAbs : Int) + a.exp + 9).toNat ≤ ((nDigits b.mant.natAbs : Int) + b.exp + 8).toNat by omega)
          rw [sneg _ (show (nDigits a.mant.natAbs : Int) + a.exp - ((nDigits b.mant.natAbs : Int) + b.exp) < 0 by omega), spos _ (show 0 < val a - val b by omega)]
          decide
        · have hp := pow_mono (show ((nDigits b.mant.natAbs : Int) + b.exp + 9).toNat ≤ ((nDigits a.mant.natAbs : Int) + a.exp + 8).toNat by omega)
          rw [spos _ (show 0 < (nDigits a.mant.natAbs : Int) + a.exp - ((nDigits b.mant.natAbs : Int) + b.exp) by omega), sneg _ (show val a - val b < 0 by omega)]
          decide
      · exact (a0 g1).elim
      · have vna : sgn (val a) = 1 := by rw [va, g2]
        have vnb : sgn (val b) = 1 := by rw [vb, ← hs, g2]
        have na : 0 < val a := by rcases s3 (val a) with h | h | h <;> first | exact h.1 | (rw [h.2] at vna; exact absurd vna (by decide))
        have nb : 0 < val b := by rcases s3 (val b) with h | h | h <;> first | exact h.1 | (rw [h.2] at vnb; exact absurd vnb (by decide))
        rw [g2]
        rcases Int.lt_or_gt_of_ne hz with h | h
        · have hp := pow_mono (show ((nDigits a.mant.natAbs : Int) + a.exp + 9).toNat ≤ ((nDigits b.mant.natAbs : Int) + b.exp + 8).toNat by omega)
          rw [sneg _ (show (nDigits a.mant.natAbs : Int) + a.exp - ((nDigits b.mant.natAbs : Int) + b.exp) < 0 by omega), sneg _ (show val a - val b < 0 by omega)]
          decide
        · have hp := pow_mono (show ((nDigits b.mant.natAbs : Int) + b.exp + 9).toNat ≤ ((nDigits a.mant.natAbs : Int) + a.exp + 8).toNat by omega)
          rw [spos _ (show 0 < (nDigits a.mant.natAbs : Int) + a.exp - ((nDigits b.mant.natAbs : Int) + b.exp) by omega), spos _ (show 0 < val a - val b by omega)]
          decide
  · have hs' : (sgn a.mant != sgn b.mant) = true := bne_iff_ne.2 hs
    rw [hs', cond_true]
    congr 1
    rw [← va, ← vb] at hs ⊢
    rcases s3 (val a) with ⟨g1, g2⟩ | ⟨g1, g2⟩ | ⟨g1, g2⟩ <;> rcases s3 (val b) with ⟨k1, k2⟩ | ⟨k1, k2⟩ | ⟨k1, k2⟩ <;> rw [g2, k2] at hs ⊢ <;>
      first
        | exact (hs rfl).elim
        | (rw [sneg (val a - val b) (by omega)]; decide)
        | (rw [spos (val a - val b) (by omega)]; decide)

/-! ### DecimalSums -/
theorem mkD_fm {u x : Int} (hu : Int.tmod u 10 ≠ 0) (h : (mkD u x).2 = true) : mkD u x = (⟨u, x⟩, true) ∧ Fm ⟨u, x⟩ := by
  unfold mkD at h ⊢
  split at h
  · rename_i hc
    rw [if_pos hc]
    exact ⟨rfl, .inr ⟨hu, hc⟩⟩
  · cases h
theorem mkD_false {u x : Int} (h : (mkD u x).2 = false) : mkD u x = (⟨0, 0⟩, false) := by
  unfold mkD at h ⊢
  split at h
  · cases h
  · rename_i hc
    rw [if_neg hc]

/-- What Make makes out of a decimal's own number by a lower exponent: the decimal. -/
theorem made_same {d : Dcm} (h : Fm d) (h0 : d.mant ≠ 0) {j : Nat} {x : Int} (hx : x + j = d.exp) {r : Dcm × Bool} (hr : Made (d.mant * 10 ^ j) x r) : r = (d, true) := by
  have hz := h.nz h0
  have hab := abs_le_mul d.mant j
  rcases hr with ⟨h1, _⟩ | ⟨u, i, e, hu, rfl⟩
  · omega
  · obtain ⟨rfl, rfl⟩ := strip_one i j u d.mant hu hz e.symm
    have b := h.bounds
    unfold mkD
    rw [if_pos (by omega), hx]

theorem mod10 {m X : Int} (h : Int.tmod (m + X * 10) 10 = 0) : Int.tmod m 10 = 0 := by
  have h1 := Int.dvd_of_tmod_eq_zero h
  obtain ⟨q, hq⟩ := h1
  have : m = (q - X) * 10 := by omega
  rw [this]
  exact Int.mul_tmod_left _ _

theorem add_comm_ok {R : Type} {x y : Dcm} (hx : Fm x) (hy : Fm y) : ∃ (s : Dcm) (p : Bool), (∀ k : Dcm → Bool → Option R, decimal_Add x y k = k s p) ∧ (∀ k : Dcm → Bool → Option R, decimal_Add y x k = k s p) ∧
    (p = false → s = ⟨0, 0⟩) ∧ (p = true → Fm s ∧ val s = val x + val y ∧ ∀ k : Dcm → Bool → Option R, decimal_Add s ⟨-y.mant, y.exp⟩ k = k x true) := by
  have bx := hx.bounds
  have by' := hy.bounds
  have hyn := hy.neg
  by_cases x0 : x.mant = 0
  · have ex := hx.zero x0
    refine ⟨⟨x.mant + y.mant, x.exp + y.exp⟩, true, fun k => add_z hx hy (.inl x0) k, fun k => ?_, (fun h => by cases h), fun _ => ?_⟩
    · rw [add_z hy hx (.inr x0), Int.add_comm y.mant, Int.add_comm y.exp]
    · rw [ex]
      have ey : (⟨0 + y.mant, 0 + y.exp⟩ : Dcm) = y := by rw [Int.zero_add, Int.zero_add]
      rw [ey]
      refine ⟨hy, by simp [val], fun k => ?_⟩
      by_cases y0 : y.mant = 0
      · rw [add_z hy hyn (.inl y0)]
        have e2 := hy.zero y0
        rw [e2]
        rfl
      · rw [add_nz hy hyn y0 (by simp only; omega)]
        simp only [Int.min_self, Int.sub_self]
        show decimal_Make (IntKind.i64.wrap (y.mant + -y.mant)) y.exp k = _
        rw [Int.add_right_neg, wrap_id (n := 0) (by omega) (by omega), make_zero]
  by_cases y0 : y.mant = 0
  · have ey := hy.zero y0
    refine ⟨⟨x.mant + y.mant, x.exp + y.exp⟩, true, fun k => add_z hx hy (.inr y0) k, fun k => ?_, (fun h => by cases h), fun _ => ?_⟩
    · rw [add_z hy hx (.inl y0), Int.add_comm y.mant, Int.add_comm y.exp]
    · rw [ey]
      have ex : (⟨x.mant + 0, x.exp + 0⟩ : Dcm) = x := by rw [Int.add_zero, Int.add_zero]
      rw [ex]
      refine ⟨hx, by simp [val], fun k => ?_⟩
      exact (add_z hx (y := ⟨0, 0⟩) .mk0 (.inr rfl) k).trans (congrArg (fun d => k d true) ex)
  -- neither is nothing
  have hc : ∀ k : Dcm → Bool → Option R, decimal_Add y x k = match shiftP y.mant (y.exp - min x.exp y.exp).toNat, shiftP x.mant (x.exp - min x.exp y.exp).toNat with
      | some Y, some X => decimal_Make (IntKind.i64.wrap (Y + X)) (min x.exp y.exp) k
      | _, _ => k ⟨0, 0⟩ false := fun k => by rw [add_nz hy hx y0 x0, Int.min_comm]
  cases hX : shiftP x.mant (x.exp - min x.exp y.exp).toNat with
  | none =>
    refine ⟨⟨0, 0⟩, false, fun k => by rw [add_nz hx hy x0 y0, hX], fun k => ?_, fun _ => rfl, fun h => by cases h⟩
    rw [hc, hX]
    cases shiftP y.mant (y.exp - min x.exp y.exp).toNat <;> rfl
  | some X =>
  cases hY : shiftP y.mant (y.exp - min x.exp y.exp).toNat with
  | none =>
    refine ⟨⟨0, 0⟩, false, fun k => by rw [add_nz hx hy x0 y0, hX, hY], fun k => by rw [hc, hX, hY], fun _ => rfl, fun h => by cases h⟩
  | some Y =>
  have vX := shiftP_val _ _ _ hX
  have vY := shiftP_val _ _ _ hY
  have lX := shiftP_le _ _ _ hX (by omega)
  have lY := shiftP_le _ _ _ hY (by omega)
  have hw : IntKind.i64.wrap (X + Y) = X + Y := wrap_id (by omega) (by omega)
  obtain ⟨r, hr, hm⟩ := make_any (R := R) (X + Y) (min x.exp y.exp) (by unfold I64; omega) (by omega) (by omega)
  have valx := val_shift hx (x := min x.exp y.exp) (by omega) (by omega)
  have valy := val_shift hy (x := min x.exp y.exp) (by omega) (by omega)
  rw [← vX] at valx
  rw [← vY] at valy
  refine ⟨r.1, r.2, fun k => by rw [add_nz hx hy x0 y0, hX, hY]; simp only; rw [hw, hm], fun k => by rw [hc, hX, hY]; simp only; rw [Int.add_comm Y X, hw, hm], fun h => ?_, fun h => ?_⟩
  · rcases hr with ⟨_, rfl⟩ | ⟨u, j, _, _, rfl⟩
    · cases h
    · rw [mkD_false h]
  · have yn0 : (⟨-y.mant, y.exp⟩ : Dcm).mant ≠ 0 := by simp only; omega
    rcases hr with ⟨hz, rfl⟩ | ⟨u, j, hu, hd, rfl⟩
    · -- the sum is nothing
      have e1 : x.mant * 10 ^ (x.exp - min x.exp y.exp).toNat = (-y.mant) * 10 ^ (y.exp - min x.exp y.exp).toNat := by rw [← vX, Int.neg_mul, ← vY]; omega
      obtain ⟨g1, g2⟩ := strip_one _ _ _ _ (hx.nz x0) (tmod_neg (hy.nz y0)) e1
      refine ⟨.mk0, ?_, fun k => ?_⟩
      · rw [valx, valy, ← Int.add_mul, hz]; simp [val]
      · rw [add_z .mk0 hyn (.inl rfl)]
        have : (⟨0 + -y.mant, 0 + y.exp⟩ : Dcm) = x := by
          cases x
          simp only at g1 g2 ⊢
          rw [Int.zero_add, Int.zero_add, ← g2]
          congr 1
          omega
        exact congrArg (fun d => k d true) this
    · obtain ⟨e1, hf⟩ := mkD_fm hd h
      rw [e1]
      simp only
      have hu0 : u ≠ 0 := by rintro rfl; exact hd rfl
      have bs := hf.bounds
      simp only at bs
      refine ⟨hf, ?_, fun k => ?_⟩
      · have vs := val_shift hf (x := min x.exp y.exp) (by simp only; omega) (by omega)
        rw [vs, valx, valy, ← Int.add_mul, hu]
        simp only
        congr 2
        congr 1
        omega
      · rw [add_nz hf hyn hu0 yn0]
        simp only
        -- where the exponents stand
        by_cases hcase : y.exp ≤ x.exp
        · have hmin : min x.exp y.exp = y.exp := by omega
          simp only [hmin] at hX hY bs vX vY valx valy ⊢
          have hj0 : (y.exp - y.exp).toNat = 0 := by omega
          have hmin2 : min (y.exp + (j : Int)) y.exp = y.exp := by omega
          rw [hj0] at vY
          have vY' : Y = y.mant := by rw [vY]; simp
          rw [hmin2, hj0]
          have hsj : (y.exp + (j : Int) - y.exp).toNat = j := by omega
          rw [hsj]
          have hfit : shiftP u j = some (u * 10 ^ j) := by
            apply shiftP_fits
            rw [← hu]
            by_cases hj : j = 0
            · subst hj
              have : X + Y = u := by rw [hu]; simp
              omega
            · have hk : (x.exp - y.exp).toNat = 0 := by
                rcases Nat.eq_zero_or_pos (x.exp - y.exp).toNat with h0 | h0
                · exact h0
                · exfalso
                  obtain ⟨q, hq⟩ : ∃ q, (x.exp - y.exp).toNat = q + 1 := ⟨(x.exp - y.exp).toNat - 1, by omega⟩
                  obtain ⟨i, hi⟩ : ∃ i, j = i + 1 := ⟨j - 1, by omega⟩
                  apply hy.nz y0
                  apply mod10 (X := x.mant * 10 ^ q)
                  have e3 : y.mant + x.mant * 10 ^ q * 10 = u * 10 ^ i * 10 := by
                    rw [vX, vY', hq, hi, Int.pow_succ, Int.pow_succ, ← Int.mul_assoc, ← Int.mul_assoc] at hu
                    omega
                  rw [e3]
                  exact Int.mul_tmod_left _ _
              rw [hk] at vX
              have : X = x.mant := by rw [vX]; simp
              omega
          rw [hfit, ← hu]
          show decimal_Make (IntKind.i64.wrap (X + Y + -y.mant)) y.exp k = _
          have e4 : X + Y + -y.mant = X := by omega
          rw [e4, wrap_id (n := X) (by omega) (by omega)]
          obtain ⟨r2, hr2, hm2⟩ := make_any (R := R) X y.exp (by unfold I64; omega) (by omega) (by omega)
          rw [hm2]
          rw [vX] at hr2
          rw [made_same hx x0 (j := (x.exp - y.exp).toNat) (x := y.exp) (by omega) hr2]
        · have hmin : min x.exp y.exp = x.exp := by omega
          simp only [hmin] at hX hY bs vX vY valx valy ⊢
          have hj0 : (x.exp - x.exp).toNat = 0 := by omega
          rw [hj0] at vX
          have vX' : X = x.mant := by rw [vX]; simp
          obtain ⟨q, hq⟩ : ∃ q, (y.exp - x.exp).toNat = q + 1 := ⟨(y.exp - x.exp).toNat - 1, by omega⟩
          have hj : j = 0 := by
            rcases Nat.eq_zero_or_pos j with h0 | h0
            · exact h0
            · exfalso
              obtain ⟨i, hi⟩ : ∃ i, j = i + 1 := ⟨j - 1, by omega⟩
              apply hx.nz x0
              apply mod10 (X := y.mant * 10 ^ q)
              have e3 : x.mant + y.mant * 10 ^ q * 10 = u * 10 ^ i * 10 := by
                rw [vX', vY, hq, hi, Int.pow_succ, Int.pow_succ, ← Int.mul_assoc, ← Int.mul_assoc] at hu
                omega
              rw [e3]
              exact Int.mul_tmod_left _ _
          subst hj
          have hu' : X + Y = u := by rw [hu]; simp
          have hmin2 : min (x.exp + ((0 : Nat) : Int)) y.exp = x.exp := by omega
          have hs0 : (x.exp + ((0 : Nat) : Int) - x.exp).toNat = 0 := by omega
          rw [hmin2, hs0, shiftP_neg _ _ _ hY]
          show decimal_Make (IntKind.i64.wrap (u + -Y)) x.exp k = _
          have e4 : u + -Y = x.mant := by omega
          rw [e4, wrap_id (n := x.mant) (by omega) (by omega)]
          obtain ⟨r2, hr2, hm2⟩ := make_any (R := R) x.mant x.exp (by unfold I64; omega) (by omega) (by omega)
          rw [hm2]
          have e5 : x.mant = x.mant * 10 ^ 0 := by simp
          rw [e5] at hr2
          rw [made_same hx x0 (j := 0) (x := x.exp) (by omega) hr2]

theorem small_arr2 {N : Nat} {a : Arr2} (h : Small N (.int .i64 a.a) ∧ Small N (.int .i64 a.b)) : I64 a.a ∧ I64 a.b := ⟨i64_has.1 h.1.int_inv, i64_has.1 h.2.int_inv⟩

theorem sums_core {R : Type} (a b : Arr2) (ha : I64 a.a ∧ I64 a.b) (hb : I64 b.a ∧ I64 b.b) (k : Bool → Option R) : law01_DecimalSums a b k = k true := by
  have e : law01_DecimalSums a b k = law01_DecimalSums_X law01_awake law01_Fit decimal_Compare decimal_Add a b k := rfl
  rw [e]
  unfold law01_DecimalSums_X
  rw [awake01]
  obtain ⟨x, hx, fx⟩ := fit_ok (R := R) a.a a.b ha.1 ha.2
  obtain ⟨y, hy, fy⟩ := fit_ok (R := R) b.a b.b hb.1 hb.2
  have bx := hx.bounds
  have by' := hy.bounds
  obtain ⟨s, p, h1, h2, h3, h4⟩ := add_comm_ok (R := R) hx hy
  rw [fx, fy, h1, h2, wrap_id (n := 0 - x.mant) (by omega) (by omega), wrap_id (n := 0 - y.mant) (by omega) (by omega)]
  have exn : 0 - x.mant = -x.mant := by omega
  have eyn : 0 - y.mant = -y.mant := by omega
  rw [exn, eyn]
  -- with the opposite
  have h5 : ∀ f : Dcm → Bool → Option R, decimal_Add x ⟨-x.mant, x.exp⟩ f = f ⟨0, 0⟩ true := fun f => by
    by_cases x0 : x.mant = 0
    · rw [add_z hx hx.neg (.inl x0), hx.zero x0]
      rfl
    · rw [add_nz hx hx.neg x0 (by simp only; omega)]
      simp only [Int.min_self, Int.sub_self]
      show decimal_Make (IntKind.i64.wrap (x.mant + -x.mant)) x.exp f = _
      rw [Int.add_right_neg, wrap_id (n := 0) (by omega) (by omega), make_zero]
  rw [h5]
  have beq0 : ((0 : Int) == 0 && ((0 : Int) == 0 && true)) = true := rfl
  simp only [BEq.rfl, Bool.and_self, Bool.not_true, cond_false, Bool.and_true]
  cases p with
  | false =>
    rw [h3 rfl]
    rfl
  | true =>
    obtain ⟨g1, g2, g3⟩ := h4 rfl
    rw [Bool.not_true, cond_false, g3]
    simp only [BEq.rfl, Bool.and_self, cond_true]
    rw [compare_ok g1 hx, compare_ok hy .mk0]
    have v0 : val ⟨0, 0⟩ = 0 := by simp [val]
    have ev : val s - val x = val y - val ⟨0, 0⟩ := by rw [g2, v0]; omega
    rw [ev]
    simp

theorem arr2_i64 {N : Nat} {a : Arr2} (h : ∀ c ∈ Ty.cells .arr2 a, Small N c) : I64 a.a ∧ I64 a.b :=
  ⟨i64_has.1 (h (.int .i64 a.a) (by simp [Ty.cells])).int_inv, i64_has.1 (h (.int .i64 a.b) (by simp [Ty.cells])).int_inv⟩

theorem decimalSums_true {R : Type} (a b : Arr2) (ha : ∀ c ∈ Ty.cells .arr2 a, Small 1048576 c) (hb : ∀ c ∈ Ty.cells .arr2 b, Small 1048576 c) (k : Bool → Option R) : law01_DecimalSums a b k = k true :=
  sums_core a b (arr2_i64 ha) (arr2_i64 hb) k
end Go.Proofs.YtifgegmnngfckaaDoor

/-
  DecimalSums: the statement where what it reads is of bulk at most 1048576: for every such input the law returns true, and each argument reads behind the call as it read before. Out of the plain law; printed by wip/tools/row.py.
-/
set_option linter.unusedVariables false
set_option maxRecDepth 100000
namespace Go.Proofs.YtifgegmnngfckaaDoor.decimalSums
open Go.ChangeShapes Go.WideShapes Go.ChangeAt Go.RowKit Go.Yard Door

theorem run (a0 : Arr2) (a1 : Arr2) : specBy law01_DecimalSums_p law01_DecimalSums_q (law01_DecimalSums_rr law01_DecimalSums) specNo [.agg [.int .i64 a0.a, .int .i64 a0.b], .agg [.int .i64 a1.a, .int .i64 a1.b]] [] kOk = law01_DecimalSums a0 a1 (fun q0 => kOk (.bool q0) []) := by kernel_rfl

theorem contract (H : Type) (enc : TypeId × Value → H) (W : World) (base : Nat) (args : Array Value) (ds gs : List (DataW H)) (before : List MemPlace)
    (hval : ∀ (j : Nat) t v, Tryd.f16.params[j]? = some t → args[j]? = some v → Value.okWide Tryd.prog W .any base t v)
    (hW : DataW.Whole enc Tryd.prog Tryd.f16.params.toList Rows.decimalSumsSpec.vars false W args.toList ds gs before) (hL : laidMetH Tryd.prog Rows.decimalSumsUptoRow.laid W) (hk : Rows.uptoSmall H (ds ++ gs) = true) :
    Calls Tryd.prog 16 args W fun e W' => ∃ v, e = .returned v ∧ Rows.decimalSumsSpec.post enc Tryd.prog Tryd.f16 false true false false W args v W' := by
  have hW' := hW
  obtain ⟨p, q, hA0, hV, hpq, hfz, hnd⟩ := hW
  have hA : DataW.TrodAll enc Tryd.prog W 0 (fun _ => true) true [52, 52] args.toList ds p := hA0
  have hval : ∀ (j : Nat) t v, (#[52, 52] : Array Nat)[j]? = some t → args[j]? = some v → Value.okWide Tryd.prog W .any base t v := hval
  obtain ⟨v0, vs0, d0, ds0, p0, q0, hargs, rfl, rfl, h0, r0⟩ := trodAll_cons hA
  obtain ⟨v1, vs1, d1, ds1, p1, q1, rfl, rfl, rfl, h1, r1⟩ := trodAll_cons r0
  obtain ⟨rfl, rfl, rfl⟩ := trodAll_nil r1
  obtain rfl : args = #[v0, v1] := by cases args; simp_all
  have hV' : DataW.TrodVars enc Tryd.prog W (fun _ => true) [] gs q := hV
  obtain ⟨rfl, rfl⟩ := trodVars_none hV'
  have hb : Rows.uptoBulkAll ([d0, d1] ++ []) ≤ 1048576 := of_decide_eq_true hk
  simp only [List.append_nil, Rows.uptoBulkAll] at hb
  obtain ⟨a0, q0, s0⟩ := arg_agg (T := .arr2) (N := 1048576) leaves (by kernel_rfl) (by kernel_rfl) (hval 0 52 v0 rfl rfl) h0 (by omega) (Nat.le_of_ble_eq_true rfl)
  obtain ⟨a1, q1, s1⟩ := arg_agg (T := .arr2) (N := 1048576) leaves (by kernel_rfl) (by kernel_rfl) (hval 1 52 v1 rfl rfl) h1 (by omega) (Nat.le_of_ble_eq_true rfl)
  have ra : RepL W [] cfg0 [.agg [.int .i64 a0.a, .int .i64 a0.b], .agg [.int .i64 a1.a, .int .i64 a1.b]] #[v0, v1].toList := (.cons q0 (.cons q1 .nil))
  obtain ⟨hsays, hblocks⟩ := lay_met (W := W) hL
  refine (calls_true Tryd.func16 rfl rfl (law01_DecimalSums_S_ok Unit _ (specNo_ok _)) hsays hblocks ra ((run a0 a1).trans (decimalSums_true a0 a1 s0 s1 (fun q0 => kOk (.bool q0) [])))).mono fun e W' ⟨he, L⟩ => ⟨_, he, ?_⟩
  exact post_true (by kernel_rfl) (params_ok (by kernel_rfl)) rfl rfl rfl (show Tryd.prog.underlying 4 = some .bool by kernel_rfl) hW' L

theorem reads (os : Os) {H : Type} (enc : TypeId × Value → H) : (DataW.whole enc Tryd.prog ((laidWorld os).forCall (fun _ _ => 0) ⟨#[], #[.agg #[.int .i64 0, .int .i64 0], .agg #[.int .i64 0, .int .i64 0]], []⟩).memory Tryd.f16.params.toList Rows.decimalSumsSpec.vars false (#[.agg #[.int .i64 0, .int .i64 0], .agg #[.int .i64 0, .int .i64 0]] : Array Value).toList 8).map (fun x => (x.1, x.2.1)) = some ([.agg [.lit (.int .i64 0), .lit (.int .i64 0)], .agg [.lit (.int .i64 0), .lit (.int .i64 0)]], []) := by kernel_rfl
theorem lifted (os : Os) (started : os.Started) (H : Type) (enc : TypeId × Value → H) (F : Stop.Interp) :
    ReturnsInHanded {} Tryd.checked os 16 .any ((Rows.OpenSpec.upto Rows.decimalSumsSpec).preRow enc Tryd.prog Tryd.f16 Rows.decimalSumsUptoRow.domain false Rows.decimalSumsUptoRow.laid) (((Rows.OpenSpec.upto Rows.decimalSumsSpec).at F).post enc Tryd.prog Tryd.f16 false true false false) := by
  obtain ⟨⟨x1, x2, x3⟩, hx, hx1⟩ := Option.map_eq_some_iff.1 (reads os enc)
  simp only [Prod.mk.injEq] at hx1
  obtain ⟨rfl, rfl⟩ := hx1
  refine returnsInHanded_of_row (C := Tryd.checked) (s := Rows.OpenSpec.upto Rows.decimalSumsSpec) own started (by kernel_rfl) Tryd.func16
    (witness_row_atRef (enc := enc) (C := Tryd.checked) false (laidWorld os) #[.agg #[.int .i64 0, .int .i64 0], .agg #[.int .i64 0, .int .i64 0]] rfl (by kernel_rfl) (by kernel_rfl) (by kernel_rfl)
      (OpenSpec.preRow_of_cond 8 hx (by kernel_rfl) (fun k hk => by cases hk; kernel_rfl) (by kernel_rfl) (laid_met os _))) ?_
  intro W base args ds gs before hval hW _ hcond _ hL _ _
  exact contract H enc W base args ds gs before hval hW hL (hcond _ rfl)

theorem saidUpto : Rows.DecimalSumsUptoSaid :=
  OpenClaim.holds_of_cond 16 Tryd.f16 rfl rfl rfl rfl rfl rfl rfl ⟨rfl, rfl, rfl, rfl, rfl⟩ rfl rfl rfl rfl rfl (by kernel_rfl) Tryd.func16 (by kernel_rfl)
    (of_decide_eq_true (by kernel_rfl)) (by unfold Func.isWrapper; first | (rw [if_pos (by decide +kernel)]; kernel_rfl) | (rw [if_neg (by decide +kernel)]; exact ⟨rfl, rfl⟩))
    (fun os started H enc _ F => by rw [OpenClaim.pre_eq_preRow]; exact lifted os started H enc F)

theorem plain (f : FuncId) (fn : Func) (hf : Tryd.pinned.checked.prog.funcNamed "humpyard/humpyardlaw01.DecimalSums" = some f) (hfn : Tryd.pinned.checked.prog.funcs[f]? = some fn) :
    true = Tryd.pinned.checked.prog.looks [] ∧ ∀ (j : Nat) t, fn.params[j]? = some t → Tryd.pinned.checked.prog.wantsStandIn t = false := by
  obtain rfl : f = 16 := Option.some.inj ((show Tryd.prog.funcNamed "humpyard/humpyardlaw01.DecimalSums" = some 16 by kernel_rfl).symm.trans hf) |>.symm
  obtain rfl : fn = Tryd.f16 := (Option.some.inj (Tryd.func16.symm.trans hfn)).symm
  refine ⟨by kernel_rfl, fun j t ht => ?_⟩
  have hall : Tryd.f16.params.toList.all (fun t => !Tryd.prog.wantsStandIn t) = true := by kernel_rfl
  have hm : t ∈ Tryd.f16.params.toList := Array.mem_toList_iff.2 (Array.mem_of_getElem? ht)
  have := List.all_eq_true.1 hall t hm
  exact (show Tryd.prog.wantsStandIn t = false by simpa using this)
end Go.Proofs.YtifgegmnngfckaaDoor.decimalSums
namespace Go.Proofs.YtifgegmnngfckaaDoor
open Go.RowKit
/-- THE SECOND FORM's CARD. -/
theorem decimalSums_card_upto : Rows.DecimalSumsUptoCardSaid :=
  Claim7.holds_tied_plain_at .later [] _ _ _ _ decimalSums.saidUpto (fun _ h => by cases h) (by kernel_rfl) (fun _ h => by cases h) decimalSumsUpto_row_tie rfl ⟨rfl, rfl⟩ (by kernel_rfl) rfl decimalSums.plain (by kernel_rfl)
end Go.Proofs.YtifgegmnngfckaaDoor

