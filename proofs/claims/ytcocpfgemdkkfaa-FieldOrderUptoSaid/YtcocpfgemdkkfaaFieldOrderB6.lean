/-
  FieldOrder: for every input whose bulk is at most 1048576 the law returns true, and each argument reads behind the call as it read before; part 6 of 8 of the proof: an interpreter of the model's code over typed data, proved sound; the functions that the law reaches, printed as Lean functions and tied; the plain law. Own texts laid one behind the other.
-/
import Derived.Test.YtcocpfgemdkkfaaFieldOrderB5
/-
  Functions of the program as pure Lean functions, and the ties; printed by wip/tools/emit.py.
-/
set_option maxRecDepth 100000
set_option linter.unusedVariables false
namespace Go.Proofs.Ytcocpfgemdkkfaa
open Go Go.Yard

/-! ### humpyard/field.fresh -/
abbrev field_fresh_ty (R : Type) : Type := Json → (Json → Option R) → Option R
abbrev field_fresh_p : List Pat := [.agg [.int .i64, .int .i64, .int .i64, .str, .sl .str, .sl .json]]
abbrev field_fresh_q : List HPat := []
noncomputable def field_fresh_rr {R : Type} (fn : field_fresh_ty R) : Pat.dens field_fresh_p → HPat.dens field_fresh_q → (V → Heap → Option R) → Option R := fun x y k => fn (⟨x.1.1, ⟨x.1.2.1, x.1.2.2.1⟩, x.1.2.2.2.1, x.1.2.2.2.2.1, x.1.2.2.2.2.2.1⟩ : Json) (fun q0 => k (.agg [.int .i64 q0.kind, .int .i64 q0.num.mant, .int .i64 q0.num.exp, .str q0.text, .sl .str q0.names .no, .sl .json q0.items .no]) [])
abbrev field_fresh_4_0_ty (R : Type) : Type := Nat → Int → Int → Int → Int → Int → Str → (List Str) → Int → Int → Int → Str → (Int → Int → Int → Str → (List Str) → Int → Int → Int → Str → Option R) → Option R
abbrev field_fresh_4_1_ty (R : Type) : Type := Nat → Nat → Int → Int → Int → Int → Int → Str → (List Str) → Nat → Int → Int → Int → Str → (List Json) → (Int → Int → Int → Str → (List Str) → Nat → Int → Int → Int → Str → (List Json) → Option R) → Option R
noncomputable def field_fresh_E (R : Type) (hrec_field_fresh : field_fresh_ty R) (slices_Clone_stringstring : slices_Clone_stringstring_ty R) (slices_Clone_JsonJson_4f56 : slices_Clone_JsonJson_4f56_ty R) : Env R := fun i => match i with
  | 67 => some (true, (specBy field_fresh_p field_fresh_q (field_fresh_rr hrec_field_fresh) specNo))
  | 91 => some (true, (specBy slices_Clone_stringstring_p slices_Clone_stringstring_q (slices_Clone_stringstring_rr slices_Clone_stringstring) specNo))
  | 92 => some (false, (specBy slices_Clone_JsonJson_4f56_p slices_Clone_JsonJson_4f56_q (slices_Clone_JsonJson_4f56_rr slices_Clone_JsonJson_4f56) specNo))
  | _ => none
theorem field_fresh_EOk (R : Type) (hrec_field_fresh : field_fresh_ty R) (hyp_field_fresh : Yard.Spec.Ok Try.prog 67 (specBy field_fresh_p field_fresh_q (field_fresh_rr hrec_field_fresh) specNo)) : EOk Try.prog (field_fresh_E R hrec_field_fresh slices_Clone_stringstring slices_Clone_JsonJson_4f56) := by
  intro i b sp h
  unfold field_fresh_E at h
  split at h
  · cases h; exact hyp_field_fresh
  · cases h; exact (slices_Clone_stringstring_S_ok R _ (specNo_ok _))
  · cases h; exact (slices_Clone_JsonJson_4f56_S_ok R _ (specNo_ok _))
  · cases h

noncomputable def field_fresh_4_0_B {R : Type} (rec' : Int → Int → Int → Int → Int → Str → (List Str) → Int → Int → Int → Str → Option R) (x5 : Int) (x6 : Int) (x7 : Int) (x8 : Int) (x9 : Int) (x10 : Str) (x11 : List Str) (x12 : Int) (x13 : Int) (x14 : Int) (x15 : Str) (e0 : Int → Int → Int → Str → (List Str) → Int → Int → Int → Str → Option R) : Option R :=
  bif (decide (x6 < x5)) then (none) else (e0 x7 x8 x9 x10 x11 x12 x13 x14 x15)
noncomputable def field_fresh_4_0_L {R : Type} : field_fresh_4_0_ty R
  | 0, _, _, _, _, _, _, _, _, _, _, _, _ => none
  | n + 1, x0', x1', x2', x3', x4', x5', x6', x7', x8', x9', x10', e0 => field_fresh_4_0_B (fun x0' x1' x2' x3' x4' x5' x6' x7' x8' x9' x10' => field_fresh_4_0_L n x0' x1' x2' x3' x4' x5' x6' x7' x8' x9' x10' e0) x0' x1' x2' x3' x4' x5' x6' x7' x8' x9' x10' e0
noncomputable def field_fresh_4_0_h : Hint := { live := [1, 2, 14, 15, 16], own := [], rows := [], cells := [], drop := [], out := [1, 2] }
abbrev field_fresh_4_0_D : Type := Int × Int × Int × Int × Int × Str × (List Str) × Int × Int × Int × Str
noncomputable def field_fresh_4_0_enc : field_fresh_4_0_D → St := fun d => ⟨[.undef, .ptr 0 0, .ptr 1 0, .undef, .undef, .undef, .undef, .undef, .undef, .undef, .undef, .undef, .undef, .undef, .nilsl, .int .i64 d.1, .int .i64 d.2.1, .undef, .undef, .undef, .undef, .undef, .undef, .undef, .undef, .undef, .undef, .undef, .undef], [.cells [.int .i64 d.2.2.1, .int .i64 d.2.2.2.1, .int .i64 d.2.2.2.2.1, .str d.2.2.2.2.2.1, .sl .str d.2.2.2.2.2.2.1 .no, .nilsl], .cells [.int .i64 d.2.2.2.2.2.2.2.1, .int .i64 d.2.2.2.2.2.2.2.2.1, .int .i64 d.2.2.2.2.2.2.2.2.2.1, .str d.2.2.2.2.2.2.2.2.2.2, .nilsl, .nilsl]]⟩
noncomputable def field_fresh_4_0_x0 {R : Type} (K : Ex → St → Option R) (q0 : Int) (q1 : Int) (q2 : Int) (q3 : Str) (q4 : List Str) (q5 : Int) (q6 : Int) (q7 : Int) (q8 : Str) : Option R := K (.exit 0) ⟨[.undef, .ptr 0 0, .ptr 1 0, .undef, .undef, .undef, .undef, .undef, .undef, .undef, .undef, .undef, .undef, .undef, .undef, .undef, .undef, .undef, .undef, .undef, .undef, .undef, .undef, .undef, .undef, .undef, .undef, .undef, .undef], [.cells [.int .i64 q0, .int .i64 q1, .int .i64 q2, .str q3, .sl .str q4 .no, .nilsl], .cells [.int .i64 q5, .int .i64 q6, .int .i64 q7, .str q8, .nilsl, .nilsl]]⟩
noncomputable def field_fresh_4_0_s {R : Type} (K : Ex → St → Option R) (rc : field_fresh_4_0_D → Option R) (d : field_fresh_4_0_D) : Option R := field_fresh_4_0_B (fun z0 z1 z2 z3 z4 z5 z6 z7 z8 z9 z10 => rc (z0, z1, z2, z3, z4, z5, z6, z7, z8, z9, z10)) d.1 d.2.1 d.2.2.1 d.2.2.2.1 d.2.2.2.2.1 d.2.2.2.2.2.1 d.2.2.2.2.2.2.1 d.2.2.2.2.2.2.2.1 d.2.2.2.2.2.2.2.2.1 d.2.2.2.2.2.2.2.2.2.1 d.2.2.2.2.2.2.2.2.2.2 (field_fresh_4_0_x0 K)
noncomputable def field_fresh_4_0_A {R : Type} (K : Ex → St → Option R) (n : Nat) (d : field_fresh_4_0_D) : Option R := field_fresh_4_0_L n d.1 d.2.1 d.2.2.1 d.2.2.2.1 d.2.2.2.2.1 d.2.2.2.2.2.1 d.2.2.2.2.2.2.1 d.2.2.2.2.2.2.2.1 d.2.2.2.2.2.2.2.2.1 d.2.2.2.2.2.2.2.2.2.1 d.2.2.2.2.2.2.2.2.2.2 (field_fresh_4_0_x0 K)
abbrev field_fresh_4_0_p : List Pat := [.leaf (.undef), .leaf (.ptr 0 0), .leaf (.ptr 1 0), .leaf (.undef), .leaf (.undef), .leaf (.undef), .leaf (.undef), .leaf (.undef), .leaf (.undef), .leaf (.undef), .leaf (.undef), .leaf (.undef), .leaf (.undef), .leaf (.undef), .leaf (.nilsl), .leaf (.int .i64), .leaf (.int .i64), .leaf (.undef), .leaf (.undef), .leaf (.undef), .leaf (.undef), .leaf (.undef), .leaf (.undef), .leaf (.undef), .leaf (.undef), .leaf (.undef), .leaf (.undef), .leaf (.undef), .leaf (.undef)]
abbrev field_fresh_4_0_q : List HPat := [.cells [.int .i64, .int .i64, .int .i64, .str, .sl .str, .nilsl], .cells [.int .i64, .int .i64, .int .i64, .str, .nilsl, .nilsl]]
noncomputable def field_fresh_4_0_f (x : Pat.dens field_fresh_4_0_p) (y : HPat.dens field_fresh_4_0_q) : Nat := (Int.natAbs x.2.2.2.2.2.2.2.2.2.2.2.2.2.2.2.1 + Int.natAbs x.2.2.2.2.2.2.2.2.2.2.2.2.2.2.2.2.1 + Int.natAbs y.1.1 + Int.natAbs y.1.2.1 + Int.natAbs y.1.2.2.1 + List.length y.1.2.2.2.1 + List.length y.1.2.2.2.2.1 + Int.natAbs y.2.1.1 + Int.natAbs y.2.1.2.1 + Int.natAbs y.2.1.2.2.1 + List.length y.2.1.2.2.2.1 + 3)
noncomputable def field_fresh_4_0_d (x : Pat.dens field_fresh_4_0_p) (y : HPat.dens field_fresh_4_0_q) : field_fresh_4_0_D := (x.2.2.2.2.2.2.2.2.2.2.2.2.2.2.2.1, x.2.2.2.2.2.2.2.2.2.2.2.2.2.2.2.2.1, y.1.1, y.1.2.1, y.1.2.2.1, y.1.2.2.2.1, y.1.2.2.2.2.1, y.2.1.1, y.2.1.2.1, y.2.1.2.2.1, y.2.1.2.2.2.1)
noncomputable def field_fresh_4_0_rr {R : Type} (L : field_fresh_4_0_ty R) : Pat.dens field_fresh_4_0_p → HPat.dens field_fresh_4_0_q → (Ex → St → Option R) → Option R := fun x y K => L (field_fresh_4_0_f x y) x.2.2.2.2.2.2.2.2.2.2.2.2.2.2.2.1 x.2.2.2.2.2.2.2.2.2.2.2.2.2.2.2.2.1 y.1.1 y.1.2.1 y.1.2.2.1 y.1.2.2.2.1 y.1.2.2.2.2.1 y.2.1.1 y.2.1.2.1 y.2.1.2.2.1 y.2.1.2.2.2.1 (field_fresh_4_0_x0 K)
noncomputable def field_fresh_4_1_B {R : Type} (hrec_field_fresh : field_fresh_ty R) (rec' : Nat → Int → Int → Int → Int → Int → Str → (List Str) → Nat → Int → Int → Int → Str → (List Json) → Option R) (x25 : Nat) (x26 : Int) (x27 : Int) (x28 : Int) (x29 : Int) (x30 : Int) (x31 : Str) (x32 : List Str) (x33 : Nat) (x34 : Int) (x35 : Int) (x36 : Int) (x37 : Str) (x38 : List Json) (e0 : Int → Int → Int → Str → (List Str) → Nat → Int → Int → Int → Str → (List Json) → Option R) : Option R :=
  bif (decide (x27 < x26)) then (chk (decide ((0 : Int) ≤ x27) && decide (x27 < x25)) (chk (decide (x27.toNat < x38.length)) (hrec_field_fresh (⟨(x38.getD x27.toNat (Ty.dflt .json)).kind, ⟨(x38.getD x27.toNat (Ty.dflt .json)).num.mant, (x38.getD x27.toNat (Ty.dflt .json)).num.exp⟩, (x38.getD x27.toNat (Ty.dflt .json)).text, (x38.getD x27.toNat (Ty.dflt .json)).names, (x38.getD x27.toNat (Ty.dflt .json)).items⟩ : Json) (fun y39 => chk (decide ((0 : Int) ≤ x27) && decide (x27 < x33)) (chk (decide (x27.toNat < x38.length)) (rec' x25 x26 (IntKind.i64.wrap (x27 + 1)) x28 x29 x30 x31 x32 x33 x34 x35 x36 x37 (x38.set x27.toNat (⟨y39.kind, ⟨y39.num.mant, y39.num.exp⟩, y39.text, y39.names, y39.items⟩ : Json)))))))) else (e0 x28 x29 x30 x31 x32 x33 x34 x35 x36 x37 x38)
noncomputable def field_fresh_4_1_L {R : Type} (hrec_field_fresh : field_fresh_ty R) : field_fresh_4_1_ty R
  | 0, _, _, _, _, _, _, _, _, _, _, _, _, _, _, _ => none
  | n + 1, x0', x1', x2', x3', x4', x5', x6', x7', x8', x9', x10', x11', x12', x13', e0 => field_fresh_4_1_B hrec_field_fresh (fun x0' x1' x2' x3' x4' x5' x6' x7' x8' x9' x10' x11' x12' x13' => field_fresh_4_1_L hrec_field_fresh n x0' x1' x2' x3' x4' x5' x6' x7' x8' x9' x10' x11' x12' x13' e0) x0' x1' x2' x3' x4' x5' x6' x7' x8' x9' x10' x11' x12' x13' e0
noncomputable def field_fresh_4_1_h : Hint := { live := [1, 2, 14, 15, 16], own := [], rows := [], cells := [], drop := [], out := [1, 2] }
abbrev field_fresh_4_1_D : Type := Nat × Int × Int × Int × Int × Int × Str × (List Str) × Nat × Int × Int × Int × Str × (List Json)
noncomputable def field_fresh_4_1_enc : field_fresh_4_1_D → St := fun d => ⟨[.undef, .ptr 0 0, .ptr 1 0, .undef, .undef, .undef, .undef, .undef, .undef, .undef, .undef, .undef, .undef, .undef, .row 2 d.1, .int .i64 d.2.1, .int .i64 d.2.2.1, .undef, .undef, .undef, .undef, .undef, .undef, .undef, .undef, .undef, .undef, .undef, .undef], [.cells [.int .i64 d.2.2.2.1, .int .i64 d.2.2.2.2.1, .int .i64 d.2.2.2.2.2.1, .str d.2.2.2.2.2.2.1, .sl .str d.2.2.2.2.2.2.2.1 .no, .row 2 d.2.2.2.2.2.2.2.2.1], .cells [.int .i64 d.2.2.2.2.2.2.2.2.2.1, .int .i64 d.2.2.2.2.2.2.2.2.2.2.1, .int .i64 d.2.2.2.2.2.2.2.2.2.2.2.1, .str d.2.2.2.2.2.2.2.2.2.2.2.2.1, .nilsl, .nilsl], .row .json d.2.2.2.2.2.2.2.2.2.2.2.2.2]⟩
noncomputable def field_fresh_4_1_x0 {R : Type} (K : Ex → St → Option R) (q0 : Int) (q1 : Int) (q2 : Int) (q3 : Str) (q4 : List Str) (q5 : Nat) (q6 : Int) (q7 : Int) (q8 : Int) (q9 : Str) (q10 : List Json) : Option R := K (.exit 0) ⟨[.undef, .ptr 0 0, .ptr 1 0, .undef, .undef, .undef, .undef, .undef, .undef, .undef, .undef, .undef, .undef, .undef, .undef, .undef, .undef, .undef, .undef, .undef, .undef, .undef, .undef, .undef, .undef, .undef, .undef, .undef, .undef], [.cells [.int .i64 q0, .int .i64 q1, .int .i64 q2, .str q3, .sl .str q4 .no, .row 2 q5], .cells [.int .i64 q6, .int .i64 q7, .int .i64 q8, .str q9, .nilsl, .nilsl], .row .json q10]⟩
noncomputable def field_fresh_4_1_s {R : Type} (hrec_field_fresh : field_fresh_ty R) (K : Ex → St → Option R) (rc : field_fresh_4_1_D → Option R) (d : field_fresh_4_1_D) : Option R := field_fresh_4_1_B hrec_field_fresh (fun z0 z1 z2 z3 z4 z5 z6 z7 z8 z9 z10 z11 z12 z13 => rc (z0, z1, z2, z3, z4, z5, z6, z7, z8, z9, z10, z11, z12, z13)) d.1 d.2.1 d.2.2.1 d.2.2.2.1 d.2.2.2.2.1 d.2.2.2.2.2.1 d.2.2.2.2.2.2.1 d.2.2.2.2.2.2.2.1 d.2.2.2.2.2.2.2.2.1 d.2.2.2.2.2.2.2.2.2.1 d.2.2.2.2.2.2.2.2.2.2.1 d.2.2.2.2.2.2.2.2.2.2.2.1 d.2.2.2.2.2.2.2.2.2.2.2.2.1 d.2.2.2.2.2.2.2.2.2.2.2.2.2 (field_fresh_4_1_x0 K)
noncomputable def field_fresh_4_1_A {R : Type} (hrec_field_fresh : field_fresh_ty R) (K : Ex → St → Option R) (n : Nat) (d : field_fresh_4_1_D) : Option R := field_fresh_4_1_L hrec_field_fresh n d.1 d.2.1 d.2.2.1 d.2.2.2.1 d.2.2.2.2.1 d.2.2.2.2.2.1 d.2.2.2.2.2.2.1 d.2.2.2.2.2.2.2.1 d.2.2.2.2.2.2.2.2.1 d.2.2.2.2.2.2.2.2.2.1 d.2.2.2.2.2.2.2.2.2.2.1 d.2.2.2.2.2.2.2.2.2.2.2.1 d.2.2.2.2.2.2.2.2.2.2.2.2.1 d.2.2.2.2.2.2.2.2.2.2.2.2.2 (field_fresh_4_1_x0 K)
abbrev field_fresh_4_1_p : List Pat := [.leaf (.undef), .leaf (.ptr 0 0), .leaf (.ptr 1 0), .leaf (.undef), .leaf (.undef), .leaf (.undef), .leaf (.undef), .leaf (.undef), .leaf (.undef), .leaf (.undef), .leaf (.undef), .leaf (.undef), .leaf (.undef), .leaf (.undef), .leaf (.row 2), .leaf (.int .i64), .leaf (.int .i64), .leaf (.undef), .leaf (.undef), .leaf (.undef), .leaf (.undef), .leaf (.undef), .leaf (.undef), .leaf (.undef), .leaf (.undef), .leaf (.undef), .leaf (.undef), .leaf (.undef), .leaf (.undef)]
abbrev field_fresh_4_1_q : List HPat := [.cells [.int .i64, .int .i64, .int .i64, .str, .sl .str, .row 2], .cells [.int .i64, .int .i64, .int .i64, .str, .nilsl, .nilsl], .row .json]
noncomputable def field_fresh_4_1_f (x : Pat.dens field_fresh_4_1_p) (y : HPat.dens field_fresh_4_1_q) : Nat := (Int.natAbs x.2.2.2.2.2.2.2.2.2.2.2.2.2.2.2.1 + Int.natAbs x.2.2.2.2.2.2.2.2.2.2.2.2.2.2.2.2.1 + Int.natAbs y.1.1 + Int.natAbs y.1.2.1 + Int.natAbs y.1.2.2.1 + List.length y.1.2.2.2.1 + List.length y.1.2.2.2.2.1 + Int.natAbs y.2.1.1 + Int.natAbs y.2.1.2.1 + Int.natAbs y.2.1.2.2.1 + List.length y.2.1.2.2.2.1 + List.length y.2.2.1 + 3)
noncomputable def field_fresh_4_1_d (x : Pat.dens field_fresh_4_1_p) (y : HPat.dens field_fresh_4_1_q) : field_fresh_4_1_D := (x.2.2.2.2.2.2.2.2.2.2.2.2.2.2.1, x.2.2.2.2.2.2.2.2.2.2.2.2.2.2.2.1, x.2.2.2.2.2.2.2.2.2.2.2.2.2.2.2.2.1, y.1.1, y.1.2.1, y.1.2.2.1, y.1.2.2.2.1, y.1.2.2.2.2.1, y.1.2.2.2.2.2.1, y.2.1.1, y.2.1.2.1, y.2.1.2.2.1, y.2.1.2.2.2.1, y.2.2.1)
noncomputable def field_fresh_4_1_rr {R : Type} (L : field_fresh_4_1_ty R) : Pat.dens field_fresh_4_1_p → HPat.dens field_fresh_4_1_q → (Ex → St → Option R) → Option R := fun x y K => L (field_fresh_4_1_f x y) x.2.2.2.2.2.2.2.2.2.2.2.2.2.2.1 x.2.2.2.2.2.2.2.2.2.2.2.2.2.2.2.1 x.2.2.2.2.2.2.2.2.2.2.2.2.2.2.2.2.1 y.1.1 y.1.2.1 y.1.2.2.1 y.1.2.2.2.1 y.1.2.2.2.2.1 y.1.2.2.2.2.2.1 y.2.1.1 y.2.1.2.1 y.2.1.2.2.1 y.2.1.2.2.2.1 y.2.2.1 (field_fresh_4_1_x0 K)
noncomputable def field_fresh_T (R : Type) (field_fresh_4_0_L : field_fresh_4_0_ty R) (field_fresh_4_1_L : field_fresh_4_1_ty R) : Nat → Option (Hint × LSpec R) := fun i => match i with
  | 4 => some (field_fresh_4_0_h, (loopBy field_fresh_4_0_p field_fresh_4_0_q (field_fresh_4_0_rr field_fresh_4_0_L) (loopBy field_fresh_4_1_p field_fresh_4_1_q (field_fresh_4_1_rr field_fresh_4_1_L) loopNo)))
  | _ => none

theorem field_fresh_4_0_B_ok {R : Type} (hrec_field_fresh : field_fresh_ty R) (slices_Clone_stringstring : slices_Clone_stringstring_ty R) (slices_Clone_JsonJson_4f56 : slices_Clone_JsonJson_4f56_ty R) (field_fresh_4_0_L : field_fresh_4_0_ty R) (field_fresh_4_1_L : field_fresh_4_1_ty R) (K : Ex → St → Option R) (rc : St → Option R) (d : field_fresh_4_0_D) : roundOf tt (field_fresh_E R hrec_field_fresh slices_Clone_stringstring slices_Clone_JsonJson_4f56) (field_fresh_T R field_fresh_4_0_L field_fresh_4_1_L) 0 ((loopsOf (codeOf Try.f67)).getD 0 .skip) field_fresh_4_0_h (field_fresh_4_0_enc d) rc K = field_fresh_4_0_s K (fun d => rc (field_fresh_4_0_enc d)) d := by kernel_rfl
theorem field_fresh_4_0_A_succ {R : Type} (K : Ex → St → Option R) (n : Nat) (d : field_fresh_4_0_D) : field_fresh_4_0_A K (n + 1) d = field_fresh_4_0_s K (field_fresh_4_0_A K n) d := by kernel_rfl
theorem field_fresh_4_0_A_zero {R : Type} (K : Ex → St → Option R) (d : field_fresh_4_0_D) : field_fresh_4_0_A K 0 d = none := by kernel_rfl
theorem field_fresh_4_0_e_ok (x : Pat.dens field_fresh_4_0_p) (y : HPat.dens field_fresh_4_0_q) : (⟨Pat.encL field_fresh_4_0_p x, HPat.encL field_fresh_4_0_q y⟩ : St) = field_fresh_4_0_enc (field_fresh_4_0_d x y) := by kernel_rfl
theorem field_fresh_4_0_r_ok {R : Type} (x : Pat.dens field_fresh_4_0_p) (y : HPat.dens field_fresh_4_0_q) (K : Ex → St → Option R) : field_fresh_4_0_rr (field_fresh_4_0_L) x y K = field_fresh_4_0_A K (field_fresh_4_0_f x y) (field_fresh_4_0_d x y) := by kernel_rfl
theorem field_fresh_4_0_ok {R : Type} (hrec_field_fresh : field_fresh_ty R) (other : LSpec R) (ho : LsOk tt (field_fresh_E R hrec_field_fresh slices_Clone_stringstring slices_Clone_JsonJson_4f56) (field_fresh_T R field_fresh_4_0_L (field_fresh_4_1_L hrec_field_fresh)) 0 ((loopsOf (codeOf Try.f67)).getD 0 .skip) field_fresh_4_0_h other) : LsOk tt (field_fresh_E R hrec_field_fresh slices_Clone_stringstring slices_Clone_JsonJson_4f56) (field_fresh_T R field_fresh_4_0_L (field_fresh_4_1_L hrec_field_fresh)) 0 ((loopsOf (codeOf Try.f67)).getD 0 .skip) field_fresh_4_0_h (loopBy field_fresh_4_0_p field_fresh_4_0_q (field_fresh_4_0_rr (field_fresh_4_0_L)) other) :=
  loopBy_tie (A := field_fresh_4_0_A) ho (loop_tie field_fresh_4_0_enc (field_fresh_4_0_s) (field_fresh_4_0_A) (field_fresh_4_0_A_zero) (field_fresh_4_0_B_ok hrec_field_fresh slices_Clone_stringstring slices_Clone_JsonJson_4f56 field_fresh_4_0_L (field_fresh_4_1_L hrec_field_fresh)) (field_fresh_4_0_A_succ)) field_fresh_4_0_f field_fresh_4_0_d field_fresh_4_0_e_ok (field_fresh_4_0_r_ok)

theorem field_fresh_4_1_B_ok {R : Type} (hrec_field_fresh : field_fresh_ty R) (slices_Clone_stringstring : slices_Clone_stringstring_ty R) (slices_Clone_JsonJson_4f56 : slices_Clone_JsonJson_4f56_ty R) (field_fresh_4_0_L : field_fresh_4_0_ty R) (field_fresh_4_1_L : field_fresh_4_1_ty R) (K : Ex → St → Option R) (rc : St → Option R) (d : field_fresh_4_1_D) : roundOf tt (field_fresh_E R hrec_field_fresh slices_Clone_stringstring slices_Clone_JsonJson_4f56) (field_fresh_T R field_fresh_4_0_L field_fresh_4_1_L) 0 ((loopsOf (codeOf Try.f67)).getD 0 .skip) field_fresh_4_1_h (field_fresh_4_1_enc d) rc K = field_fresh_4_1_s hrec_field_fresh K (fun d => rc (field_fresh_4_1_enc d)) d := by kernel_rfl
theorem field_fresh_4_1_A_succ {R : Type} (hrec_field_fresh : field_fresh_ty R) (K : Ex → St → Option R) (n : Nat) (d : field_fresh_4_1_D) : field_fresh_4_1_A hrec_field_fresh K (n + 1) d = field_fresh_4_1_s hrec_field_fresh K (field_fresh_4_1_A hrec_field_fresh K n) d := by kernel_rfl
theorem field_fresh_4_1_A_zero {R : Type} (hrec_field_fresh : field_fresh_ty R) (K : Ex → St → Option R) (d : field_fresh_4_1_D) : field_fresh_4_1_A hrec_field_fresh K 0 d = none := by kernel_rfl
theorem field_fresh_4_1_e_ok (x : Pat.dens field_fresh_4_1_p) (y : HPat.dens field_fresh_4_1_q) : (⟨Pat.encL field_fresh_4_1_p x, HPat.encL field_fresh_4_1_q y⟩ : St) = field_fresh_4_1_enc (field_fresh_4_1_d x y) := by kernel_rfl
theorem field_fresh_4_1_r_ok {R : Type} (hrec_field_fresh : field_fresh_ty R) (x : Pat.dens field_fresh_4_1_p) (y : HPat.dens field_fresh_4_1_q) (K : Ex → St → Option R) : field_fresh_4_1_rr (field_fresh_4_1_L hrec_field_fresh) x y K = field_fresh_4_1_A hrec_field_fresh K (field_fresh_4_1_f x y) (field_fresh_4_1_d x y) := by kernel_rfl
theorem field_fresh_4_1_ok {R : Type} (hrec_field_fresh : field_fresh_ty R) (other : LSpec R) (ho : LsOk tt (field_fresh_E R hrec_field_fresh slices_Clone_stringstring slices_Clone_JsonJson_4f56) (field_fresh_T R field_fresh_4_0_L (field_fresh_4_1_L hrec_field_fresh)) 0 ((loopsOf (codeOf Try.f67)).getD 0 .skip) field_fresh_4_1_h other) : LsOk tt (field_fresh_E R hrec_field_fresh slices_Clone_stringstring slices_Clone_JsonJson_4f56) (field_fresh_T R field_fresh_4_0_L (field_fresh_4_1_L hrec_field_fresh)) 0 ((loopsOf (codeOf Try.f67)).getD 0 .skip) field_fresh_4_1_h (loopBy field_fresh_4_1_p field_fresh_4_1_q (field_fresh_4_1_rr (field_fresh_4_1_L hrec_field_fresh)) other) :=
  loopBy_tie (A := field_fresh_4_1_A hrec_field_fresh) ho (loop_tie field_fresh_4_1_enc (field_fresh_4_1_s hrec_field_fresh) (field_fresh_4_1_A hrec_field_fresh) (field_fresh_4_1_A_zero hrec_field_fresh) (field_fresh_4_1_B_ok hrec_field_fresh slices_Clone_stringstring slices_Clone_JsonJson_4f56 field_fresh_4_0_L (field_fresh_4_1_L hrec_field_fresh)) (field_fresh_4_1_A_succ hrec_field_fresh)) field_fresh_4_1_f field_fresh_4_1_d field_fresh_4_1_e_ok (field_fresh_4_1_r_ok hrec_field_fresh)

noncomputable def field_fresh_X {R : Type} (slices_Clone_stringstring : slices_Clone_stringstring_ty R) (slices_Clone_JsonJson_4f56 : slices_Clone_JsonJson_4f56_ty R) (field_fresh_4_0_L : field_fresh_4_0_ty R) (field_fresh_4_1_L : field_fresh_4_1_ty R) (x1 : Json) (k0 : Json → Option R) : Option R :=
  slices_Clone_stringstring x1.names (fun y2 => slices_Clone_JsonJson_4f56 x1.items (field_fresh_4_0_L (Int.natAbs 0 + Int.natAbs 0 + Int.natAbs x1.kind + Int.natAbs x1.num.mant + Int.natAbs x1.num.exp + List.length x1.text + List.length y2 + Int.natAbs 0 + Int.natAbs 0 + Int.natAbs 0 + List.length ([] : Str) + 3) 0 0 x1.kind x1.num.mant x1.num.exp x1.text y2 0 0 0 ([] : Str) (fun y16 y17 y18 y19 y20 y21 y22 y23 y24 => k0 (⟨y16, ⟨y17, y18⟩, y19, y20, ([] : List Json)⟩ : Json))) (fun y3 y4 => field_fresh_4_1_L (Int.natAbs (y3 : Int) + Int.natAbs 0 + Int.natAbs x1.kind + Int.natAbs x1.num.mant + Int.natAbs x1.num.exp + List.length x1.text + List.length y2 + Int.natAbs 0 + Int.natAbs 0 + Int.natAbs 0 + List.length ([] : Str) + List.length y4 + 3) y3 (y3 : Int) 0 x1.kind x1.num.mant x1.num.exp x1.text y2 y3 0 0 0 ([] : Str) y4 (fun y40 y41 y42 y43 y44 y45 y46 y47 y48 y49 y50 => k0 (⟨y40, ⟨y41, y42⟩, y43, y44, y50⟩ : Json))))
noncomputable def field_fresh_B {R : Type} (hrec_field_fresh : field_fresh_ty R) : field_fresh_ty R := fun x1 k0 => field_fresh_X slices_Clone_stringstring slices_Clone_JsonJson_4f56 field_fresh_4_0_L (field_fresh_4_1_L hrec_field_fresh) x1 k0
theorem field_fresh_ok {R : Type} (hrec_field_fresh : field_fresh_ty R) (slices_Clone_stringstring : slices_Clone_stringstring_ty R) (slices_Clone_JsonJson_4f56 : slices_Clone_JsonJson_4f56_ty R) (field_fresh_4_0_L : field_fresh_4_0_ty R) (field_fresh_4_1_L : field_fresh_4_1_ty R) (x1 : Json) (k : V → Heap → Option R) : funK tt (field_fresh_E R hrec_field_fresh slices_Clone_stringstring slices_Clone_JsonJson_4f56) (field_fresh_T R field_fresh_4_0_L field_fresh_4_1_L) false Try.f67 (codeOf Try.f67) [.agg [.int .i64 x1.kind, .int .i64 x1.num.mant, .int .i64 x1.num.exp, .str x1.text, .sl .str x1.names .no, .sl .json x1.items .no]] [] k =
    field_fresh_X slices_Clone_stringstring slices_Clone_JsonJson_4f56 field_fresh_4_0_L field_fresh_4_1_L x1 (fun q0 => k (.agg [.int .i64 q0.kind, .int .i64 q0.num.mant, .int .i64 q0.num.exp, .str q0.text, .sl .str q0.names .no, .sl .json q0.items .no]) []) := by kernel_rfl
theorem field_fresh_loops (R : Type) (hrec_field_fresh : field_fresh_ty R) : ∀ a ∈ loopsOf (codeOf Try.f67), LoopOk tt (field_fresh_E R hrec_field_fresh slices_Clone_stringstring slices_Clone_JsonJson_4f56) (field_fresh_T R field_fresh_4_0_L (field_fresh_4_1_L hrec_field_fresh)) 0 a := by
  refine loops_ok 1 (by kernel_rfl) fun i hi => ?_
  match i, hi with
  | 0, _ => exact loopOk_some (by kernel_rfl) (field_fresh_4_0_ok hrec_field_fresh _ (field_fresh_4_1_ok hrec_field_fresh _ loopNo_ok))
  | n + 1, hi => omega
theorem field_fresh_S_okB (R : Type) (hrec_field_fresh : field_fresh_ty R) (hyp_field_fresh : Yard.Spec.Ok Try.prog 67 (specBy field_fresh_p field_fresh_q (field_fresh_rr hrec_field_fresh) specNo)) (other : Yard.Spec R) (ho : Yard.Spec.Ok Try.prog 67 other) : Yard.Spec.Ok Try.prog 67 (specBy field_fresh_p field_fresh_q (field_fresh_rr (field_fresh_B hrec_field_fresh)) other) :=
  specBy_ok ho (funK_sound TT mixed (field_fresh_EOk R hrec_field_fresh hyp_field_fresh) (keep := false) rfl rfl rfl rfl 0 (field_fresh_loops R hrec_field_fresh)) fun (x : Pat.dens field_fresh_p) (y : HPat.dens field_fresh_q) k => field_fresh_ok hrec_field_fresh slices_Clone_stringstring slices_Clone_JsonJson_4f56 field_fresh_4_0_L (field_fresh_4_1_L hrec_field_fresh) (⟨x.1.1, ⟨x.1.2.1, x.1.2.2.1⟩, x.1.2.2.2.1, x.1.2.2.2.2.1, x.1.2.2.2.2.2.1⟩ : Json) k
noncomputable def field_fresh_N {R : Type} : Nat → field_fresh_ty R
  | 0, _, _ => none
  | n + 1, x0', k0' => field_fresh_B (field_fresh_N n) x0' k0'
theorem field_fresh_N_succ {R : Type} (n : Nat) : field_fresh_N (R := R) (n + 1) = field_fresh_B (field_fresh_N n) := by kernel_rfl
theorem field_fresh_N_ok (R : Type) : ∀ n, Yard.Spec.Ok Try.prog 67 (specBy field_fresh_p field_fresh_q (field_fresh_rr (field_fresh_N (R := R) n)) specNo) :=
  specBy_fuel (run := fun n => field_fresh_rr (field_fresh_N (R := R) n)) (fun x y k => by kernel_rfl) fun n hyp => field_fresh_S_okB R (field_fresh_N n) hyp specNo (specNo_ok _)
noncomputable def field_fresh {R : Type} : field_fresh_ty R := fun x1 k0 => field_fresh_N (Json.depth x1 + 2) x1 k0
theorem field_fresh_r_ok (R : Type) : field_fresh_rr (R := R) field_fresh = fun x y k => field_fresh_rr (field_fresh_N (Json.depth (⟨x.1.1, ⟨x.1.2.1, x.1.2.2.1⟩, x.1.2.2.2.1, x.1.2.2.2.2.1, x.1.2.2.2.2.2.1⟩ : Json) + 2)) x y k := by kernel_rfl
theorem field_fresh_S_ok (R : Type) (other : Yard.Spec R) (ho : Yard.Spec.Ok Try.prog 67 other) : Yard.Spec.Ok Try.prog 67 (specBy field_fresh_p field_fresh_q (field_fresh_rr field_fresh) other) :=
  specBy_run (specBy_at (run := fun n => field_fresh_rr (field_fresh_N (R := R) n)) (fun x y => (Json.depth (⟨x.1.1, ⟨x.1.2.1, x.1.2.2.1⟩, x.1.2.2.2.1, x.1.2.2.2.2.1, x.1.2.2.2.2.2.1⟩ : Json) + 2)) ho (field_fresh_N_ok R)) (field_fresh_r_ok R)

/-! ### humpyard/field.Make -/
abbrev field_Make_ty (R : Type) : Type := (List Str) → (List Json) → (Json → Option R) → Option R
abbrev field_Make_p : List Pat := [.leaf (.sl .str), .leaf (.sl .json)]
abbrev field_Make_q : List HPat := []
noncomputable def field_Make_rr {R : Type} (fn : field_Make_ty R) : Pat.dens field_Make_p → HPat.dens field_Make_q → (V → Heap → Option R) → Option R := fun x y k => fn x.1 x.2.1 (fun q0 => k (.agg [.int .i64 q0.kind, .int .i64 q0.num.mant, .int .i64 q0.num.exp, .str q0.text, .sl .str q0.names .no, .sl .json q0.items .no]) [])
abbrev field_Make_3_0_ty (R : Type) : Type := Nat → (List Str) → (List Json) → Int → Int → Int → Int → Int → Str → Int → Int → Int → Str → (List Str) → (List Json) → (Int → Int → Int → Str → Int → Int → Int → Str → (List Str) → (List Json) → Option R) → Option R
noncomputable def field_Make_E (R : Type) (slices_Contains_stringstring : slices_Contains_stringstring_ty R) (field_fresh : field_fresh_ty R) : Env R := fun i => match i with
  | 66 => some (true, (specBy slices_Contains_stringstring_p slices_Contains_stringstring_q (slices_Contains_stringstring_rr slices_Contains_stringstring) specNo))
  | 67 => some (true, (specBy field_fresh_p field_fresh_q (field_fresh_rr field_fresh) specNo))
  | _ => none
theorem field_Make_EOk (R : Type) : EOk Try.prog (field_Make_E R slices_Contains_stringstring field_fresh) := by
  intro i b sp h
  unfold field_Make_E at h
  split at h
  · cases h; exact (slices_Contains_stringstring_S_ok R _ (specNo_ok _))
  · cases h; exact (field_fresh_S_ok R _ (specNo_ok _))
  · cases h

noncomputable def field_Make_3_0_B {R : Type} (slices_Contains_stringstring : slices_Contains_stringstring_ty R) (field_fresh : field_fresh_ty R) (rec' : (List Str) → (List Json) → Int → Int → Int → Int → Int → Str → Int → Int → Int → Str → (List Str) → (List Json) → Option R) (x3 : List Str) (x4 : List Json) (x5 : Int) (x6 : Int) (x7 : Int) (x8 : Int) (x9 : Int) (x10 : Str) (x11 : Int) (x12 : Int) (x13 : Int) (x14 : Str) (x15 : List Str) (x16 : List Json) (e0 : Int → Int → Int → Str → Int → Int → Int → Str → (List Str) → (List Json) → Option R) : Option R :=
  bif (decide (x6 < x5)) then (chk (decide ((0 : Int) ≤ x6) && decide (x6 < x4.length)) (chk (decide ((0 : Int) ≤ x6) && decide (x6 < x3.length)) (slices_Contains_stringstring x15 (x3.getD x6.toNat (Ty.dflt .str)) (fun y17 => bif (!y17) then (chk (decide ((0 : Int) ≤ x6) && decide (x6 < x3.length)) (chk (decide ((x15.length + 1) * 16 ≤ 140737488355328)) (field_fresh (⟨(x4.getD x6.toNat (Ty.dflt .json)).kind, ⟨(x4.getD x6.toNat (Ty.dflt .json)).num.mant, (x4.getD x6.toNat (Ty.dflt .json)).num.exp⟩, (x4.getD x6.toNat (Ty.dflt .json)).text, (x4.getD x6.toNat (Ty.dflt .json)).names, (x4.getD x6.toNat (Ty.dflt .json)).items⟩ : Json) (fun y18 => chk (decide ((x16.length + 1) * 88 ≤ 140737488355328)) (rec' x3 x4 x5 (IntKind.i64.wrap (x6 + 1)) x7 x8 x9 x10 x11 x12 x13 x14 (x15 ++ ([(x3.getD x6.toNat (Ty.dflt .str))] : List Str)) (x16 ++ ([(⟨y18.kind, ⟨y18.num.mant, y18.num.exp⟩, y18.text, y18.names, y18.items⟩ : Json)] : List Json))))))) else (rec' x3 x4 x5 (IntKind.i64.wrap (x6 + 1)) x7 x8 x9 x10 x11 x12 x13 x14 x15 x16))))) else (e0 x7 x8 x9 x10 x11 x12 x13 x14 x15 x16)
noncomputable def field_Make_3_0_L {R : Type} : field_Make_3_0_ty R
  | 0, _, _, _, _, _, _, _, _, _, _, _, _, _, _, _ => none
  | n + 1, x0', x1', x2', x3', x4', x5', x6', x7', x8', x9', x10', x11', x12', x13', e0 => field_Make_3_0_B slices_Contains_stringstring field_fresh (fun x0' x1' x2' x3' x4' x5' x6' x7' x8' x9' x10' x11' x12' x13' => field_Make_3_0_L n x0' x1' x2' x3' x4' x5' x6' x7' x8' x9' x10' x11' x12' x13' e0) x0' x1' x2' x3' x4' x5' x6' x7' x8' x9' x10' x11' x12' x13' e0
noncomputable def field_Make_3_0_h : Hint := { live := [0, 4, 5, 15, 16, 17], own := [], rows := [], cells := [(1, 4, .str, false), (1, 5, .json, false)], drop := [], out := [4, 5] }
abbrev field_Make_3_0_D : Type := (List Str) × (List Json) × Int × Int × Int × Int × Int × Str × Int × Int × Int × Str × (List Str) × (List Json)
noncomputable def field_Make_3_0_enc : field_Make_3_0_D → St := fun d => ⟨[.sl .str d.1 .no, .undef, .undef, .undef, .ptr 0 0, .ptr 1 0, .undef, .undef, .undef, .undef, .undef, .undef, .undef, .undef, .undef, .sl .json d.2.1 .no, .int .i64 d.2.2.1, .int .i64 d.2.2.2.1, .undef, .undef, .undef, .undef, .undef, .undef, .undef, .undef, .undef, .undef, .undef, .undef, .undef, .undef, .undef, .undef, .undef, .undef, .undef, .undef, .undef, .undef, .undef, .undef, .undef, .undef, .undef, .undef, .undef, .undef], [.cells [.int .i64 d.2.2.2.2.1, .int .i64 d.2.2.2.2.2.1, .int .i64 d.2.2.2.2.2.2.1, .str d.2.2.2.2.2.2.2.1, .nilsl, .nilsl], .cells [.int .i64 d.2.2.2.2.2.2.2.2.1, .int .i64 d.2.2.2.2.2.2.2.2.2.1, .int .i64 d.2.2.2.2.2.2.2.2.2.2.1, .str d.2.2.2.2.2.2.2.2.2.2.2.1, .sl .str d.2.2.2.2.2.2.2.2.2.2.2.2.1 (.own 2), .sl .json d.2.2.2.2.2.2.2.2.2.2.2.2.2 (.own 3)], .tok, .tok]⟩
noncomputable def field_Make_3_0_x0 {R : Type} (K : Ex → St → Option R) (q0 : Int) (q1 : Int) (q2 : Int) (q3 : Str) (q4 : Int) (q5 : Int) (q6 : Int) (q7 : Str) (q8 : List Str) (q9 : List Json) : Option R := K (.exit 0) ⟨[.undef, .undef, .undef, .undef, .ptr 0 0, .ptr 1 0, .undef, .undef, .undef, .undef, .undef, .undef, .undef, .undef, .undef, .undef, .undef, .undef, .undef, .undef, .undef, .undef, .undef, .undef, .undef, .undef, .undef, .undef, .undef, .undef, .undef, .undef, .undef, .undef, .undef, .undef, .undef, .undef, .undef, .undef, .undef, .undef, .undef, .undef, .undef, .undef, .undef, .undef], [.cells [.int .i64 q0, .int .i64 q1, .int .i64 q2, .str q3, .nilsl, .nilsl], .cells [.int .i64 q4, .int .i64 q5, .int .i64 q6, .str q7, .sl .str q8 (.own 2), .sl .json q9 (.own 3)], .tok, .tok]⟩
noncomputable def field_Make_3_0_s {R : Type} (slices_Contains_stringstring : slices_Contains_stringstring_ty R) (field_fresh : field_fresh_ty R) (K : Ex → St → Option R) (rc : field_Make_3_0_D → Option R) (d : field_Make_3_0_D) : Option R := field_Make_3_0_B slices_Contains_stringstring field_fresh (fun z0 z1 z2 z3 z4 z5 z6 z7 z8 z9 z10 z11 z12 z13 => rc (z0, z1, z2, z3, z4, z5, z6, z7, z8, z9, z10, z11, z12, z13)) d.1 d.2.1 d.2.2.1 d.2.2.2.1 d.2.2.2.2.1 d.2.2.2.2.2.1 d.2.2.2.2.2.2.1 d.2.2.2.2.2.2.2.1 d.2.2.2.2.2.2.2.2.1 d.2.2.2.2.2.2.2.2.2.1 d.2.2.2.2.2.2.2.2.2.2.1 d.2.2.2.2.2.2.2.2.2.2.2.1 d.2.2.2.2.2.2.2.2.2.2.2.2.1 d.2.2.2.2.2.2.2.2.2.2.2.2.2 (field_Make_3_0_x0 K)
noncomputable def field_Make_3_0_A {R : Type} (K : Ex → St → Option R) (n : Nat) (d : field_Make_3_0_D) : Option R := field_Make_3_0_L n d.1 d.2.1 d.2.2.1 d.2.2.2.1 d.2.2.2.2.1 d.2.2.2.2.2.1 d.2.2.2.2.2.2.1 d.2.2.2.2.2.2.2.1 d.2.2.2.2.2.2.2.2.1 d.2.2.2.2.2.2.2.2.2.1 d.2.2.2.2.2.2.2.2.2.2.1 d.2.2.2.2.2.2.2.2.2.2.2.1 d.2.2.2.2.2.2.2.2.2.2.2.2.1 d.2.2.2.2.2.2.2.2.2.2.2.2.2 (field_Make_3_0_x0 K)
abbrev field_Make_3_0_p : List Pat := [.leaf (.sl .str), .leaf (.undef), .leaf (.undef), .leaf (.undef), .leaf (.ptr 0 0), .leaf (.ptr 1 0), .leaf (.undef), .leaf (.undef), .leaf (.undef), .leaf (.undef), .leaf (.undef), .leaf (.undef), .leaf (.undef), .leaf (.undef), .leaf (.undef), .leaf (.sl .json), .leaf (.int .i64), .leaf (.int .i64), .leaf (.undef), .leaf (.undef), .leaf (.undef), .leaf (.undef), .leaf (.undef), .leaf (.undef), .leaf (.undef), .leaf (.undef), .leaf (.undef), .leaf (.undef), .leaf (.undef), .leaf (.undef), .leaf (.undef), .leaf (.undef), .leaf (.undef), .leaf (.undef), .leaf (.undef), .leaf (.undef), .leaf (.undef), .leaf (.undef), .leaf (.undef), .leaf (.undef), .leaf (.undef), .leaf (.undef), .leaf (.undef), .leaf (.undef), .leaf (.undef), .leaf (.undef), .leaf (.undef), .leaf (.undef)]
abbrev field_Make_3_0_q : List HPat := [.cells [.int .i64, .int .i64, .int .i64, .str, .nilsl, .nilsl], .cells [.int .i64, .int .i64, .int .i64, .str, .slo .str 2, .slo .json 3], .tok, .tok]
noncomputable def field_Make_3_0_f (x : Pat.dens field_Make_3_0_p) (y : HPat.dens field_Make_3_0_q) : Nat := (List.length x.1 + List.length x.2.2.2.2.2.2.2.2.2.2.2.2.2.2.2.1 + Int.natAbs x.2.2.2.2.2.2.2.2.2.2.2.2.2.2.2.2.1 + Int.natAbs x.2.2.2.2.2.2.2.2.2.2.2.2.2.2.2.2.2.1 + Int.natAbs y.1.1 + Int.natAbs y.1.2.1 + Int.natAbs y.1.2.2.1 + List.length y.1.2.2.2.1 + Int.natAbs y.2.1.1 + Int.natAbs y.2.1.2.1 + Int.natAbs y.2.1.2.2.1 + List.length y.2.1.2.2.2.1 + List.length y.2.1.2.2.2.2.1 + List.length y.2.1.2.2.2.2.2.1 + 3)
noncomputable def field_Make_3_0_d (x : Pat.dens field_Make_3_0_p) (y : HPat.dens field_Make_3_0_q) : field_Make_3_0_D := (x.1, x.2.2.2.2.2.2.2.2.2.2.2.2.2.2.2.1, x.2.2.2.2.2.2.2.2.2.2.2.2.2.2.2.2.1, x.2.2.2.2.2.2.2.2.2.2.2.2.2.2.2.2.2.1, y.1.1, y.1.2.1, y.1.2.2.1, y.1.2.2.2.1, y.2.1.1, y.2.1.2.1, y.2.1.2.2.1, y.2.1.2.2.2.1, y.2.1.2.2.2.2.1, y.2.1.2.2.2.2.2.1)
noncomputable def field_Make_3_0_rr {R : Type} (L : field_Make_3_0_ty R) : Pat.dens field_Make_3_0_p → HPat.dens field_Make_3_0_q → (Ex → St → Option R) → Option R := fun x y K => L (field_Make_3_0_f x y) x.1 x.2.2.2.2.2.2.2.2.2.2.2.2.2.2.2.1 x.2.2.2.2.2.2.2.2.2.2.2.2.2.2.2.2.1 x.2.2.2.2.2.2.2.2.2.2.2.2.2.2.2.2.2.1 y.1.1 y.1.2.1 y.1.2.2.1 y.1.2.2.2.1 y.2.1.1 y.2.1.2.1 y.2.1.2.2.1 y.2.1.2.2.2.1 y.2.1.2.2.2.2.1 y.2.1.2.2.2.2.2.1 (field_Make_3_0_x0 K)
noncomputable def field_Make_T (R : Type) (field_Make_3_0_L : field_Make_3_0_ty R) : Nat → Option (Hint × LSpec R) := fun i => match i with
  | 3 => some (field_Make_3_0_h, (loopBy field_Make_3_0_p field_Make_3_0_q (field_Make_3_0_rr field_Make_3_0_L) loopNo))
  | _ => none

theorem field_Make_3_0_B_ok {R : Type} (slices_Contains_stringstring : slices_Contains_stringstring_ty R) (field_fresh : field_fresh_ty R) (field_Make_3_0_L : field_Make_3_0_ty R) (K : Ex → St → Option R) (rc : St → Option R) (d : field_Make_3_0_D) : roundOf tt (field_Make_E R slices_Contains_stringstring field_fresh) (field_Make_T R field_Make_3_0_L) 0 ((loopsOf (codeOf Try.f24)).getD 0 .skip) field_Make_3_0_h (field_Make_3_0_enc d) rc K = field_Make_3_0_s slices_Contains_stringstring field_fresh K (fun d => rc (field_Make_3_0_enc d)) d := by kernel_rfl
theorem field_Make_3_0_A_succ {R : Type} (K : Ex → St → Option R) (n : Nat) (d : field_Make_3_0_D) : field_Make_3_0_A K (n + 1) d = field_Make_3_0_s slices_Contains_stringstring field_fresh K (field_Make_3_0_A K n) d := by kernel_rfl
theorem field_Make_3_0_A_zero {R : Type} (K : Ex → St → Option R) (d : field_Make_3_0_D) : field_Make_3_0_A K 0 d = none := by kernel_rfl
theorem field_Make_3_0_e_ok (x : Pat.dens field_Make_3_0_p) (y : HPat.dens field_Make_3_0_q) : (⟨Pat.encL field_Make_3_0_p x, HPat.encL field_Make_3_0_q y⟩ : St) = field_Make_3_0_enc (field_Make_3_0_d x y) := by kernel_rfl
theorem field_Make_3_0_r_ok {R : Type} (x : Pat.dens field_Make_3_0_p) (y : HPat.dens field_Make_3_0_q) (K : Ex → St → Option R) : field_Make_3_0_rr (field_Make_3_0_L) x y K = field_Make_3_0_A K (field_Make_3_0_f x y) (field_Make_3_0_d x y) := by kernel_rfl
theorem field_Make_3_0_ok {R : Type} (other : LSpec R) (ho : LsOk tt (field_Make_E R slices_Contains_stringstring field_fresh) (field_Make_T R field_Make_3_0_L) 0 ((loopsOf (codeOf Try.f24)).getD 0 .skip) field_Make_3_0_h other) : LsOk tt (field_Make_E R slices_Contains_stringstring field_fresh) (field_Make_T R field_Make_3_0_L) 0 ((loopsOf (codeOf Try.f24)).getD 0 .skip) field_Make_3_0_h (loopBy field_Make_3_0_p field_Make_3_0_q (field_Make_3_0_rr (field_Make_3_0_L)) other) :=
  loopBy_tie (A := field_Make_3_0_A) ho (loop_tie field_Make_3_0_enc (field_Make_3_0_s slices_Contains_stringstring field_fresh) (field_Make_3_0_A) (field_Make_3_0_A_zero) (field_Make_3_0_B_ok slices_Contains_stringstring field_fresh field_Make_3_0_L) (field_Make_3_0_A_succ)) field_Make_3_0_f field_Make_3_0_d field_Make_3_0_e_ok (field_Make_3_0_r_ok)

noncomputable def field_Make_X {R : Type} (field_Make_3_0_L : field_Make_3_0_ty R) (x1 : List Str) (x2 : List Json) (k0 : Json → Option R) : Option R :=
  chk (decide ((0 : Int) ≤ (min (x2.length : Int) (x1.length : Int))) && decide ((min (x2.length : Int) (x1.length : Int)) ≤ x2.length)) (chk (decide ((0 : Int) ≤ (min (x2.length : Int) (x1.length : Int)))) (field_Make_3_0_L (List.length x1 + List.length ((x2.drop 0).take ((min (x2.length : Int) (x1.length : Int)).toNat - 0)) + Int.natAbs (((x2.drop 0).take ((min (x2.length : Int) (x1.length : Int)).toNat - 0)).length : Int) + Int.natAbs 0 + Int.natAbs 0 + Int.natAbs 0 + Int.natAbs 0 + List.length ([] : Str) + Int.natAbs 7 + Int.natAbs 0 + Int.natAbs 0 + List.length ([] : Str) + List.length ([] : List Str) + List.length ([] : List Json) + 3) x1 ((x2.drop 0).take ((min (x2.length : Int) (x1.length : Int)).toNat - 0)) (((x2.drop 0).take ((min (x2.length : Int) (x1.length : Int)).toNat - 0)).length : Int) 0 0 0 0 ([] : Str) 7 0 0 ([] : Str) ([] : List Str) ([] : List Json) (fun y19 y20 y21 y22 y23 y24 y25 y26 y27 y28 => k0 (⟨y23, ⟨y24, y25⟩, y26, y27, y28⟩ : Json))))
noncomputable def field_Make {R : Type} : field_Make_ty R := fun x1 x2 k0 => field_Make_X field_Make_3_0_L x1 x2 k0
theorem field_Make_ok {R : Type} (slices_Contains_stringstring : slices_Contains_stringstring_ty R) (field_fresh : field_fresh_ty R) (field_Make_3_0_L : field_Make_3_0_ty R) (x1 : List Str) (x2 : List Json) (k : V → Heap → Option R) : funK tt (field_Make_E R slices_Contains_stringstring field_fresh) (field_Make_T R field_Make_3_0_L) false Try.f24 (codeOf Try.f24) [.sl .str x1 .no, .sl .json x2 .no] [] k =
    field_Make_X field_Make_3_0_L x1 x2 (fun q0 => k (.agg [.int .i64 q0.kind, .int .i64 q0.num.mant, .int .i64 q0.num.exp, .str q0.text, .sl .str q0.names .no, .sl .json q0.items .no]) []) := by kernel_rfl
theorem field_Make_loops (R : Type) : ∀ a ∈ loopsOf (codeOf Try.f24), LoopOk tt (field_Make_E R slices_Contains_stringstring field_fresh) (field_Make_T R field_Make_3_0_L) 0 a := by
  refine loops_ok 1 (by kernel_rfl) fun i hi => ?_
  match i, hi with
  | 0, _ => exact loopOk_some (by kernel_rfl) (field_Make_3_0_ok _ loopNo_ok)
  | n + 1, hi => omega
theorem field_Make_S_ok (R : Type) (other : Yard.Spec R) (ho : Yard.Spec.Ok Try.prog 24 other) : Yard.Spec.Ok Try.prog 24 (specBy field_Make_p field_Make_q (field_Make_rr field_Make) other) :=
  specBy_ok ho (funK_sound TT mixed (field_Make_EOk R) (keep := false) rfl rfl rfl rfl 0 (field_Make_loops R)) fun (x : Pat.dens field_Make_p) (y : HPat.dens field_Make_q) k => field_Make_ok slices_Contains_stringstring field_fresh field_Make_3_0_L x.1 x.2.1 k

end Go.Proofs.Ytcocpfgemdkkfaa

/-
  Functions of the program as pure Lean functions, and the ties; printed by wip/tools/emit.py.
-/
set_option maxRecDepth 100000
set_option linter.unusedVariables false
namespace Go.Proofs.Ytcocpfgemdkkfaa
open Go Go.Yard

/-! ### humpyard/humpyardlaw05.FieldOrder -/
abbrev law05_FieldOrder_ty (R : Type) : Type := (List Fld) → (List Raw) → Str → Raw → (Bool → Option R) → Option R
abbrev law05_FieldOrder_p : List Pat := [.leaf (.sl .fld), .leaf (.sl .raw), .leaf (.str), .agg [.int .i64, .int .i64, .int .i64, .sl (.int .i64), .sl .raw]]
abbrev law05_FieldOrder_q : List HPat := []
noncomputable def law05_FieldOrder_rr {R : Type} (fn : law05_FieldOrder_ty R) : Pat.dens law05_FieldOrder_p → HPat.dens law05_FieldOrder_q → (V → Heap → Option R) → Option R := fun x y k => fn x.1 x.2.1 x.2.2.1 (⟨x.2.2.2.1.1, x.2.2.2.1.2.1, x.2.2.2.1.2.2.1, x.2.2.2.1.2.2.2.1, x.2.2.2.1.2.2.2.2.1⟩ : Raw) (fun q0 => k (.bool q0) [])
abbrev law05_FieldOrder_7_0_ty (R : Type) : Type := Nat → (List Fld) → (List Raw) → Str → Bool → (List Str) → (List Json) → Int → Raw → ((List Fld) → Str → Bool → (List Str) → (List Json) → Raw → Option R) → ((List Fld) → Str → Bool → Bool → (List Str) → (List Json) → Raw → Option R) → Option R
abbrev law05_FieldOrder_14_0_ty (R : Type) : Type := Nat → (List Fld) → Str → Bool → (List Str) → (List Json) → Int → Raw → ((List Fld) → Str → Bool → (List Str) → (List Json) → Raw → Option R) → ((List Fld) → Str → Bool → Bool → (List Str) → (List Json) → Raw → Option R) → Option R
noncomputable def law05_FieldOrder_E (R : Type) (law05_awake : law05_awake_ty R) (law04_Fit : law04_Fit_ty R) (field_Make : field_Make_ty R) (field_Check : field_Check_ty R) : Env R := fun i => match i with
  | 22 => some (true, (specBy law05_awake_p law05_awake_q (law05_awake_rr law05_awake) specNo))
  | 23 => some (true, (specBy law04_Fit_p law04_Fit_q (law04_Fit_rr law04_Fit) specNo))
  | 24 => some (true, (specBy field_Make_p field_Make_q (field_Make_rr field_Make) specNo))
  | 25 => some (true, (specBy field_Check_p field_Check_q (field_Check_rr field_Check) specNo))
  | _ => none
theorem law05_FieldOrder_EOk (R : Type) : EOk Try.prog (law05_FieldOrder_E R law05_awake law04_Fit field_Make field_Check) := by
  intro i b sp h
  unfold law05_FieldOrder_E at h
  split at h
  · cases h; exact (law05_awake_S_ok R _ (specNo_ok _))
  · cases h; exact (law04_Fit_S_ok R _ (specNo_ok _))
  · cases h; exact (field_Make_S_ok R _ (specNo_ok _))
  · cases h; exact (field_Check_S_ok R _ (specNo_ok _))
  · cases h

noncomputable def law05_FieldOrder_7_0_B {R : Type} (law04_Fit : law04_Fit_ty R) (rec' : (List Fld) → (List Raw) → Str → Bool → (List Str) → (List Json) → Int → Raw → Option R) (x7 : List Fld) (x8 : List Raw) (x9 : Str) (x10 : Bool) (x11 : List Str) (x12 : List Json) (x13 : Int) (x14 : Raw) (e0 : (List Fld) → Str → Bool → (List Str) → (List Json) → Raw → Option R) (e1 : (List Fld) → Str → Bool → Bool → (List Str) → (List Json) → Raw → Option R) : Option R :=
  bif (decide (x13 < (x7.length : Int))) then (bif (decide (x13 < (x8.length : Int))) then (chk (decide ((0 : Int) ≤ x13) && decide (x13 < x7.length)) (bif ((x7.getD x13.toNat (Ty.dflt .fld)).name == x9) then (e1 x7 x9 x10 x10 x11 x12 (⟨x14.kind, x14.mant, x14.exp, x14.text, x14.items⟩ : Raw)) else (chk (decide ((0 : Int) ≤ x13) && decide (x13 < x7.length)) (chk (decide ((x11.length + 1) * 16 ≤ 140737488355328)) (chk (decide ((0 : Int) ≤ x13) && decide (x13 < x8.length)) (law04_Fit (⟨(x8.getD x13.toNat (Ty.dflt .raw)).kind, (x8.getD x13.toNat (Ty.dflt .raw)).mant, (x8.getD x13.toNat (Ty.dflt .raw)).exp, (x8.getD x13.toNat (Ty.dflt .raw)).text, (x8.getD x13.toNat (Ty.dflt .raw)).items⟩ : Raw) 2 (fun y16 => chk (decide ((x12.length + 1) * 88 ≤ 140737488355328)) (rec' x7 x8 x9 x10 (x11 ++ ([(x7.getD x13.toNat (Ty.dflt .fld)).name] : List Str)) (x12 ++ ([(⟨y16.kind, ⟨y16.num.mant, y16.num.exp⟩, y16.text, y16.names, y16.items⟩ : Json)] : List Json)) (IntKind.i64.wrap (x13 + 1)) (⟨x14.kind, x14.mant, x14.exp, x14.text, x14.items⟩ : Raw))))))))) else (e0 x7 x9 x10 x11 x12 (⟨x14.kind, x14.mant, x14.exp, x14.text, x14.items⟩ : Raw))) else (e0 x7 x9 x10 x11 x12 (⟨x14.kind, x14.mant, x14.exp, x14.text, x14.items⟩ : Raw))
noncomputable def law05_FieldOrder_7_0_L {R : Type} : law05_FieldOrder_7_0_ty R
  | 0, _, _, _, _, _, _, _, _, _, _ => none
  | n + 1, x0', x1', x2', x3', x4', x5', x6', x7', e0, e1 => law05_FieldOrder_7_0_B law04_Fit (fun x0' x1' x2' x3' x4' x5' x6' x7' => law05_FieldOrder_7_0_L n x0' x1' x2' x3' x4' x5' x6' x7' e0 e1) x0' x1' x2' x3' x4' x5' x6' x7' e0 e1
noncomputable def law05_FieldOrder_7_0_h : Hint := { live := [0, 1, 2, 7, 9, 10, 11, 12], own := [(10, .str), (11, .json)], rows := [], cells := [], drop := [], out := [0, 2, 7, 8, 9, 10, 11] }
abbrev law05_FieldOrder_7_0_D : Type := (List Fld) × (List Raw) × Str × Bool × (List Str) × (List Json) × Int × Raw
noncomputable def law05_FieldOrder_7_0_enc : law05_FieldOrder_7_0_D → St := fun d => ⟨[.sl .fld d.1 .no, .sl .raw d.2.1 .no, .str d.2.2.1, .undef, .undef, .undef, .undef, .ptr 0 0, .undef, .bool d.2.2.2.1, .sl .str d.2.2.2.2.1 (.own 1), .sl .json d.2.2.2.2.2.1 (.own 2), .int .i64 d.2.2.2.2.2.2.1, .undef, .undef, .undef, .undef, .undef, .undef, .undef, .undef, .undef, .undef, .undef, .undef, .undef, .undef, .undef, .undef, .undef, .undef, .undef, .undef, .undef, .undef, .undef, .undef, .undef, .undef, .undef, .undef, .undef, .undef, .undef, .undef, .undef, .undef, .undef, .undef, .undef, .undef, .undef, .undef, .undef, .undef, .undef, .undef, .undef, .undef, .undef, .undef, .undef, .undef, .undef, .undef, .undef, .undef, .undef, .undef, .undef, .undef, .undef, .undef, .undef, .undef, .undef, .undef, .undef, .undef, .undef, .undef, .undef, .undef, .undef, .undef, .undef, .undef, .undef, .undef, .undef, .undef, .undef, .undef, .undef, .undef, .undef, .undef, .undef, .undef, .undef, .undef, .undef, .undef, .undef, .undef, .undef, .undef, .undef, .undef, .undef, .undef, .undef, .undef, .undef, .undef, .undef, .undef, .undef, .undef, .undef, .undef, .undef, .undef, .undef, .undef, .undef, .undef, .undef, .undef, .undef, .undef, .undef, .undef], [.cells [.int .i64 d.2.2.2.2.2.2.2.kind, .int .i64 d.2.2.2.2.2.2.2.mant, .int .i64 d.2.2.2.2.2.2.2.exp, .sl (.int .i64) d.2.2.2.2.2.2.2.text .no, .sl .raw d.2.2.2.2.2.2.2.items .no], .tok, .tok]⟩
noncomputable def law05_FieldOrder_7_0_x0 {R : Type} (K : Ex → St → Option R) (q0 : List Fld) (q1 : Str) (q2 : Bool) (q3 : List Str) (q4 : List Json) (q5 : Raw) : Option R := K (.exit 0) ⟨[.sl .fld q0 .no, .undef, .str q1, .undef, .undef, .undef, .undef, .ptr 0 0, .undef, .bool q2, .sl .str q3 (.own 1), .sl .json q4 (.own 2), .undef, .undef, .undef, .undef, .undef, .undef, .undef, .undef, .undef, .undef, .undef, .undef, .undef, .undef, .undef, .undef, .undef, .undef, .undef, .undef, .undef, .undef, .undef, .undef, .undef, .undef, .undef, .undef, .undef, .undef, .undef, .undef, .undef, .undef, .undef, .undef, .undef, .undef, .undef, .undef, .undef, .undef, .undef, .undef, .undef, .undef, .undef, .undef, .undef, .undef, .undef, .undef, .undef, .undef, .undef, .undef, .undef, .undef, .undef, .undef, .undef, .undef, .undef, .undef, .undef, .undef, .undef, .undef, .undef, .undef, .undef, .undef, .undef, .undef, .undef, .undef, .undef, .undef, .undef, .undef, .undef, .undef, .undef, .undef, .undef, .undef, .undef, .undef, .undef, .undef, .undef, .undef, .undef, .undef, .undef, .undef, .undef, .undef, .undef, .undef, .undef, .undef, .undef, .undef, .undef, .undef, .undef, .undef, .undef, .undef, .undef, .undef, .undef, .undef, .undef, .undef, .undef, .undef, .undef, .undef, .undef], [.cells [.int .i64 q5.kind, .int .i64 q5.mant, .int .i64 q5.exp, .sl (.int .i64) q5.text .no, .sl .raw q5.items .no], .tok, .tok]⟩
noncomputable def law05_FieldOrder_7_0_x1 {R : Type} (K : Ex → St → Option R) (q0 : List Fld) (q1 : Str) (q2 : Bool) (q3 : Bool) (q4 : List Str) (q5 : List Json) (q6 : Raw) : Option R := K (.ret) ⟨[.sl .fld q0 .no, .undef, .str q1, .undef, .undef, .undef, .undef, .ptr 0 0, .bool q2, .bool q3, .sl .str q4 (.own 1), .sl .json q5 (.own 2), .undef, .undef, .undef, .undef, .undef, .undef, .undef, .undef, .undef, .undef, .undef, .undef, .undef, .undef, .undef, .undef, .undef, .undef, .undef, .undef, .undef, .undef, .undef, .undef, .undef, .undef, .undef, .undef, .undef, .undef, .undef, .undef, .undef, .undef, .undef, .undef, .undef, .undef, .undef, .undef, .undef, .undef, .undef, .undef, .undef, .undef, .undef, .undef, .undef, .undef, .undef, .undef, .undef, .undef, .undef, .undef, .undef, .undef, .undef, .undef, .undef, .undef, .undef, .undef, .undef, .undef, .undef, .undef, .undef, .undef, .undef, .undef, .undef, .undef, .undef, .undef, .undef, .undef, .undef, .undef, .undef, .undef, .undef, .undef, .undef, .undef, .undef, .undef, .undef, .undef, .undef, .undef, .undef, .undef, .undef, .undef, .undef, .undef, .undef, .undef, .undef, .undef, .undef, .undef, .undef, .undef, .undef, .undef, .undef, .undef, .undef, .undef, .undef, .undef, .undef, .undef, .undef, .undef, .undef, .undef, .undef], [.cells [.int .i64 q6.kind, .int .i64 q6.mant, .int .i64 q6.exp, .sl (.int .i64) q6.text .no, .sl .raw q6.items .no], .tok, .tok]⟩
noncomputable def law05_FieldOrder_7_0_s {R : Type} (law04_Fit : law04_Fit_ty R) (K : Ex → St → Option R) (rc : law05_FieldOrder_7_0_D → Option R) (d : law05_FieldOrder_7_0_D) : Option R := law05_FieldOrder_7_0_B law04_Fit (fun z0 z1 z2 z3 z4 z5 z6 z7 => rc (z0, z1, z2, z3, z4, z5, z6, z7)) d.1 d.2.1 d.2.2.1 d.2.2.2.1 d.2.2.2.2.1 d.2.2.2.2.2.1 d.2.2.2.2.2.2.1 d.2.2.2.2.2.2.2 (law05_FieldOrder_7_0_x0 K) (law05_FieldOrder_7_0_x1 K)
noncomputable def law05_FieldOrder_7_0_A {R : Type} (K : Ex → St → Option R) (n : Nat) (d : law05_FieldOrder_7_0_D) : Option R := law05_FieldOrder_7_0_L n d.1 d.2.1 d.2.2.1 d.2.2.2.1 d.2.2.2.2.1 d.2.2.2.2.2.1 d.2.2.2.2.2.2.1 d.2.2.2.2.2.2.2 (law05_FieldOrder_7_0_x0 K) (law05_FieldOrder_7_0_x1 K)
abbrev law05_FieldOrder_7_0_p : List Pat := [.leaf (.sl .fld), .leaf (.sl .raw), .leaf (.str), .leaf (.undef), .leaf (.undef), .leaf (.undef), .leaf (.undef), .leaf (.ptr 0 0), .leaf (.undef), .leaf (.bool), .leaf (.slo .str 1), .leaf (.slo .json 2), .leaf (.int .i64), .leaf (.undef), .leaf (.undef), .leaf (.undef), .leaf (.undef), .leaf (.undef), .leaf (.undef), .leaf (.undef), .leaf (.undef), .leaf (.undef), .leaf (.undef), .leaf (.undef), .leaf (.undef), .leaf (.undef), .leaf (.undef), .leaf (.undef), .leaf (.undef), .leaf (.undef), .leaf (.undef), .leaf (.undef), .leaf (.undef), .leaf (.undef), .leaf (.undef), .leaf (.undef), .leaf (.undef), .leaf (.undef), .leaf (.undef), .leaf (.undef), .leaf (.undef), .leaf (.undef), .leaf (.undef), .leaf (.undef), .leaf (.undef), .leaf (.undef), .leaf (.undef), .leaf (.undef), .leaf (.undef), .leaf (.undef), .leaf (.undef), .leaf (.undef), .leaf (.undef), .leaf (.undef), .leaf (.undef), .leaf (.undef), .leaf (.undef), .leaf (.undef), .leaf (.undef), .leaf (.undef), .leaf (.undef), .leaf (.undef), .leaf (.undef), .leaf (.undef), .leaf (.undef), .leaf (.undef), .leaf (.undef), .leaf (.undef), .leaf (.undef), .leaf (.undef), .leaf (.undef), .leaf (.undef), .leaf (.undef), .leaf (.undef), .leaf (.undef), .leaf (.undef), .leaf (.undef), .leaf (.undef), .leaf (.undef), .leaf (.undef), .leaf (.undef), .leaf (.undef), .leaf (.undef), .leaf (.undef), .leaf (.undef), .leaf (.undef), .leaf (.undef), .leaf (.undef), .leaf (.undef), .leaf (.undef), .leaf (.undef), .leaf (.undef), .leaf (.undef), .leaf (.undef), .leaf (.undef), .leaf (.undef), .leaf (.undef), .leaf (.undef), .leaf (.undef), .leaf (.undef), .leaf (.undef), .leaf (.undef), .leaf (.undef), .leaf (.undef), .leaf (.undef), .leaf (.undef), .leaf (.undef), .leaf (.undef), .leaf (.undef), .leaf (.undef), .leaf (.undef), .leaf (.undef), .leaf (.undef), .leaf (.undef), .leaf (.undef), .leaf (.undef), .leaf (.undef), .leaf (.undef), .leaf (.undef), .leaf (.undef), .leaf (.undef), .leaf (.undef), .leaf (.undef), .leaf (.undef), .leaf (.undef), .leaf (.undef), .leaf (.undef), .leaf (.undef), .leaf (.undef), .leaf (.undef), .leaf (.undef), .leaf (.undef), .leaf (.undef)]
abbrev law05_FieldOrder_7_0_q : List HPat := [.cells [.int .i64, .int .i64, .int .i64, .sl (.int .i64), .sl .raw], .tok, .tok]
noncomputable def law05_FieldOrder_7_0_f (x : Pat.dens law05_FieldOrder_7_0_p) (y : HPat.dens law05_FieldOrder_7_0_q) : Nat := (List.length x.1 + List.length x.2.1 + List.length x.2.2.1 + List.length x.2.2.2.2.2.2.2.2.2.2.1 + List.length x.2.2.2.2.2.2.2.2.2.2.2.1 + Int.natAbs x.2.2.2.2.2.2.2.2.2.2.2.2.1 + Raw.fu (⟨y.1.1, y.1.2.1, y.1.2.2.1, y.1.2.2.2.1, y.1.2.2.2.2.1⟩ : Raw) + 3)
noncomputable def law05_FieldOrder_7_0_d (x : Pat.dens law05_FieldOrder_7_0_p) (y : HPat.dens law05_FieldOrder_7_0_q) : law05_FieldOrder_7_0_D := (x.1, x.2.1, x.2.2.1, x.2.2.2.2.2.2.2.2.2.1, x.2.2.2.2.2.2.2.2.2.2.1, x.2.2.2.2.2.2.2.2.2.2.2.1, x.2.2.2.2.2.2.2.2.2.2.2.2.1, (⟨y.1.1, y.1.2.1, y.1.2.2.1, y.1.2.2.2.1, y.1.2.2.2.2.1⟩ : Raw))
noncomputable def law05_FieldOrder_7_0_rr {R : Type} (L : law05_FieldOrder_7_0_ty R) : Pat.dens law05_FieldOrder_7_0_p → HPat.dens law05_FieldOrder_7_0_q → (Ex → St → Option R) → Option R := fun x y K => L (law05_FieldOrder_7_0_f x y) x.1 x.2.1 x.2.2.1 x.2.2.2.2.2.2.2.2.2.1 x.2.2.2.2.2.2.2.2.2.2.1 x.2.2.2.2.2.2.2.2.2.2.2.1 x.2.2.2.2.2.2.2.2.2.2.2.2.1 (⟨y.1.1, y.1.2.1, y.1.2.2.1, y.1.2.2.2.1, y.1.2.2.2.2.1⟩ : Raw) (law05_FieldOrder_7_0_x0 K) (law05_FieldOrder_7_0_x1 K)
noncomputable def law05_FieldOrder_14_0_B {R : Type} (rec' : (List Fld) → Str → Bool → (List Str) → (List Json) → Int → Raw → Option R) (x30 : List Fld) (x31 : Str) (x32 : Bool) (x33 : List Str) (x34 : List Json) (x35 : Int) (x36 : Raw) (e0 : (List Fld) → Str → Bool → (List Str) → (List Json) → Raw → Option R) (e1 : (List Fld) → Str → Bool → Bool → (List Str) → (List Json) → Raw → Option R) : Option R :=
  bif (decide (x35 < (x30.length : Int))) then (chk (decide ((0 : Int) ≤ x35) && decide (x35 < x30.length)) (bif ((x30.getD x35.toNat (Ty.dflt .fld)).name == x31) then (e1 x30 x31 x32 x32 x33 x34 (⟨x36.kind, x36.mant, x36.exp, x36.text, x36.items⟩ : Raw)) else (rec' x30 x31 x32 x33 x34 (IntKind.i64.wrap (x35 + 1)) (⟨x36.kind, x36.mant, x36.exp, x36.text, x36.items⟩ : Raw)))) else (e0 x30 x31 x32 x33 x34 (⟨x36.kind, x36.mant, x36.exp, x36.text, x36.items⟩ : Raw))
noncomputable def law05_FieldOrder_14_0_L {R : Type} : law05_FieldOrder_14_0_ty R
  | 0, _, _, _, _, _, _, _, _, _ => none
  | n + 1, x0', x1', x2', x3', x4', x5', x6', e0, e1 => law05_FieldOrder_14_0_B (fun x0' x1' x2' x3' x4' x5' x6' => law05_FieldOrder_14_0_L n x0' x1' x2' x3' x4' x5' x6' e0 e1) x0' x1' x2' x3' x4' x5' x6' e0 e1
noncomputable def law05_FieldOrder_14_0_h : Hint := { live := [0, 2, 7, 9, 10, 11, 13], own := [], rows := [], cells := [], drop := [], out := [0, 2, 7, 8, 9, 10, 11] }
abbrev law05_FieldOrder_14_0_D : Type := (List Fld) × Str × Bool × (List Str) × (List Json) × Int × Raw
noncomputable def law05_FieldOrder_14_0_enc : law05_FieldOrder_14_0_D → St := fun d => ⟨[.sl .fld d.1 .no, .undef, .str d.2.1, .undef, .undef, .undef, .undef, .ptr 0 0, .undef, .bool d.2.2.1, .sl .str d.2.2.2.1 (.own 1), .sl .json d.2.2.2.2.1 (.own 2), .undef, .int .i64 d.2.2.2.2.2.1, .undef, .undef, .undef, .undef, .undef, .undef, .undef, .undef, .undef, .undef, .undef, .undef, .undef, .undef, .undef, .undef, .undef, .undef, .undef, .undef, .undef, .undef, .undef, .undef, .undef, .undef, .undef, .undef, .undef, .undef, .undef, .undef, .undef, .undef, .undef, .undef, .undef, .undef, .undef, .undef, .undef, .undef, .undef, .undef, .undef, .undef, .undef, .undef, .undef, .undef, .undef, .undef, .undef, .undef, .undef, .undef, .undef, .undef, .undef, .undef, .undef, .undef, .undef, .undef, .undef, .undef, .undef, .undef, .undef, .undef, .undef, .undef, .undef, .undef, .undef, .undef, .undef, .undef, .undef, .undef, .undef, .undef, .undef, .undef, .undef, .undef, .undef, .undef, .undef, .undef, .undef, .undef, .undef, .undef, .undef, .undef, .undef, .undef, .undef, .undef, .undef, .undef, .undef, .undef, .undef, .undef, .undef, .undef, .undef, .undef, .undef, .undef, .undef, .undef, .undef, .undef, .undef, .undef, .undef], [.cells [.int .i64 d.2.2.2.2.2.2.kind, .int .i64 d.2.2.2.2.2.2.mant, .int .i64 d.2.2.2.2.2.2.exp, .sl (.int .i64) d.2.2.2.2.2.2.text .no, .sl .raw d.2.2.2.2.2.2.items .no], .tok, .tok]⟩
noncomputable def law05_FieldOrder_14_0_x0 {R : Type} (K : Ex → St → Option R) (q0 : List Fld) (q1 : Str) (q2 : Bool) (q3 : List Str) (q4 : List Json) (q5 : Raw) : Option R := K (.exit 2) ⟨[.sl .fld q0 .no, .undef, .str q1, .undef, .undef, .undef, .undef, .ptr 0 0, .undef, .bool q2, .sl .str q3 (.own 1), .sl .json q4 (.own 2), .undef, .undef, .undef, .undef, .undef, .undef, .undef, .undef, .undef, .undef, .undef, .undef, .undef, .undef, .undef, .undef, .undef, .undef, .undef, .undef, .undef, .undef, .undef, .undef, .undef, .undef, .undef, .undef, .undef, .undef, .undef, .undef, .undef, .undef, .undef, .undef, .undef, .undef, .undef, .undef, .undef, .undef, .undef, .undef, .undef, .undef, .undef, .undef, .undef, .undef, .undef, .undef, .undef, .undef, .undef, .undef, .undef, .undef, .undef, .undef, .undef, .undef, .undef, .undef, .undef, .undef, .undef, .undef, .undef, .undef, .undef, .undef, .undef, .undef, .undef, .undef, .undef, .undef, .undef, .undef, .undef, .undef, .undef, .undef, .undef, .undef, .undef, .undef, .undef, .undef, .undef, .undef, .undef, .undef, .undef, .undef, .undef, .undef, .undef, .undef, .undef, .undef, .undef, .undef, .undef, .undef, .undef, .undef, .undef, .undef, .undef, .undef, .undef, .undef, .undef, .undef, .undef, .undef, .undef, .undef, .undef], [.cells [.int .i64 q5.kind, .int .i64 q5.mant, .int .i64 q5.exp, .sl (.int .i64) q5.text .no, .sl .raw q5.items .no], .tok, .tok]⟩
noncomputable def law05_FieldOrder_14_0_x1 {R : Type} (K : Ex → St → Option R) (q0 : List Fld) (q1 : Str) (q2 : Bool) (q3 : Bool) (q4 : List Str) (q5 : List Json) (q6 : Raw) : Option R := K (.ret) ⟨[.sl .fld q0 .no, .undef, .str q1, .undef, .undef, .undef, .undef, .ptr 0 0, .bool q2, .bool q3, .sl .str q4 (.own 1), .sl .json q5 (.own 2), .undef, .undef, .undef, .undef, .undef, .undef, .undef, .undef, .undef, .undef, .undef, .undef, .undef, .undef, .undef, .undef, .undef, .undef, .undef, .undef, .undef, .undef, .undef, .undef, .undef, .undef, .undef, .undef, .undef, .undef, .undef, .undef, .undef, .undef, .undef, .undef, .undef, .undef, .undef, .undef, .undef, .undef, .undef, .undef, .undef, .undef, .undef, .undef, .undef, .undef, .undef, .undef, .undef, .undef, .undef, .undef, .undef, .undef, .undef, .undef, .undef, .undef, .undef, .undef, .undef, .undef, .undef, .undef, .undef, .undef, .undef, .undef, .undef, .undef, .undef, .undef, .undef, .undef, .undef, .undef, .undef, .undef, .undef, .undef, .undef, .undef, .undef, .undef, .undef, .undef, .undef, .undef, .undef, .undef, .undef, .undef, .undef, .undef, .undef, .undef, .undef, .undef, .undef, .undef, .undef, .undef, .undef, .undef, .undef, .undef, .undef, .undef, .undef, .undef, .undef, .undef, .undef, .undef, .undef, .undef, .undef], [.cells [.int .i64 q6.kind, .int .i64 q6.mant, .int .i64 q6.exp, .sl (.int .i64) q6.text .no, .sl .raw q6.items .no], .tok, .tok]⟩
noncomputable def law05_FieldOrder_14_0_s {R : Type} (K : Ex → St → Option R) (rc : law05_FieldOrder_14_0_D → Option R) (d : law05_FieldOrder_14_0_D) : Option R := law05_FieldOrder_14_0_B (fun z0 z1 z2 z3 z4 z5 z6 => rc (z0, z1, z2, z3, z4, z5, z6)) d.1 d.2.1 d.2.2.1 d.2.2.2.1 d.2.2.2.2.1 d.2.2.2.2.2.1 d.2.2.2.2.2.2 (law05_FieldOrder_14_0_x0 K) (law05_FieldOrder_14_0_x1 K)
noncomputable def law05_FieldOrder_14_0_A {R : Type} (K : Ex → St → Option R) (n : Nat) (d : law05_FieldOrder_14_0_D) : Option R := law05_FieldOrder_14_0_L n d.1 d.2.1 d.2.2.1 d.2.2.2.1 d.2.2.2.2.1 d.2.2.2.2.2.1 d.2.2.2.2.2.2 (law05_FieldOrder_14_0_x0 K) (law05_FieldOrder_14_0_x1 K)
abbrev law05_FieldOrder_14_0_p : List Pat := [.leaf (.sl .fld), .leaf (.undef), .leaf (.str), .leaf (.undef), .leaf (.undef), .leaf (.undef), .leaf (.undef), .leaf (.ptr 0 0), .leaf (.undef), .leaf (.bool), .leaf (.slo .str 1), .leaf (.slo .json 2), .leaf (.undef), .leaf (.int .i64), .leaf (.undef), .leaf (.undef), .leaf (.undef), .leaf (.undef), .leaf (.undef), .leaf (.undef), .leaf (.undef), .leaf (.undef), .leaf (.undef), .leaf (.undef), .leaf (.undef), .leaf (.undef), .leaf (.undef), .leaf (.undef), .leaf (.undef), .leaf (.undef), .leaf (.undef), .leaf (.undef), .leaf (.undef), .leaf (.undef), .leaf (.undef), .leaf (.undef), .leaf (.undef), .leaf (.undef), .leaf (.undef), .leaf (.undef), .leaf (.undef), .leaf (.undef), .leaf (.undef), .leaf (.undef), .leaf (.undef), .leaf (.undef), .leaf (.undef), .leaf (.undef), .leaf (.undef), .leaf (.undef), .leaf (.undef), .leaf (.undef), .leaf (.undef), .leaf (.undef), .leaf (.undef), .leaf (.undef), .leaf (.undef), .leaf (.undef), .leaf (.undef), .leaf (.undef), .leaf (.undef), .leaf (.undef), .leaf (.undef), .leaf (.undef), .leaf (.undef), .leaf (.undef), .leaf (.undef), .leaf (.undef), .leaf (.undef), .leaf (.undef), .leaf (.undef), .leaf (.undef), .leaf (.undef), .leaf (.undef), .leaf (.undef), .leaf (.undef), .leaf (.undef), .leaf (.undef), .leaf (.undef), .leaf (.undef), .leaf (.undef), .leaf (.undef), .leaf (.undef), .leaf (.undef), .leaf (.undef), .leaf (.undef), .leaf (.undef), .leaf (.undef), .leaf (.undef), .leaf (.undef), .leaf (.undef), .leaf (.undef), .leaf (.undef), .leaf (.undef), .leaf (.undef), .leaf (.undef), .leaf (.undef), .leaf (.undef), .leaf (.undef), .leaf (.undef), .leaf (.undef), .leaf (.undef), .leaf (.undef), .leaf (.undef), .leaf (.undef), .leaf (.undef), .leaf (.undef), .leaf (.undef), .leaf (.undef), .leaf (.undef), .leaf (.undef), .leaf (.undef), .leaf (.undef), .leaf (.undef), .leaf (.undef), .leaf (.undef), .leaf (.undef), .leaf (.undef), .leaf (.undef), .leaf (.undef), .leaf (.undef), .leaf (.undef), .leaf (.undef), .leaf (.undef), .leaf (.undef), .leaf (.undef), .leaf (.undef), .leaf (.undef), .leaf (.undef), .leaf (.undef), .leaf (.undef), .leaf (.undef), .leaf (.undef)]
abbrev law05_FieldOrder_14_0_q : List HPat := [.cells [.int .i64, .int .i64, .int .i64, .sl (.int .i64), .sl .raw], .tok, .tok]
noncomputable def law05_FieldOrder_14_0_f (x : Pat.dens law05_FieldOrder_14_0_p) (y : HPat.dens law05_FieldOrder_14_0_q) : Nat := (List.length x.1 + List.length x.2.2.1 + List.length x.2.2.2.2.2.2.2.2.2.2.1 + List.length x.2.2.2.2.2.2.2.2.2.2.2.1 + Int.natAbs x.2.2.2.2.2.2.2.2.2.2.2.2.2.1 + Raw.fu (⟨y.1.1, y.1.2.1, y.1.2.2.1, y.1.2.2.2.1, y.1.2.2.2.2.1⟩ : Raw) + 3)
noncomputable def law05_FieldOrder_14_0_d (x : Pat.dens law05_FieldOrder_14_0_p) (y : HPat.dens law05_FieldOrder_14_0_q) : law05_FieldOrder_14_0_D := (x.1, x.2.2.1, x.2.2.2.2.2.2.2.2.2.1, x.2.2.2.2.2.2.2.2.2.2.1, x.2.2.2.2.2.2.2.2.2.2.2.1, x.2.2.2.2.2.2.2.2.2.2.2.2.2.1, (⟨y.1.1, y.1.2.1, y.1.2.2.1, y.1.2.2.2.1, y.1.2.2.2.2.1⟩ : Raw))
noncomputable def law05_FieldOrder_14_0_rr {R : Type} (L : law05_FieldOrder_14_0_ty R) : Pat.dens law05_FieldOrder_14_0_p → HPat.dens law05_FieldOrder_14_0_q → (Ex → St → Option R) → Option R := fun x y K => L (law05_FieldOrder_14_0_f x y) x.1 x.2.2.1 x.2.2.2.2.2.2.2.2.2.1 x.2.2.2.2.2.2.2.2.2.2.1 x.2.2.2.2.2.2.2.2.2.2.2.1 x.2.2.2.2.2.2.2.2.2.2.2.2.2.1 (⟨y.1.1, y.1.2.1, y.1.2.2.1, y.1.2.2.2.1, y.1.2.2.2.2.1⟩ : Raw) (law05_FieldOrder_14_0_x0 K) (law05_FieldOrder_14_0_x1 K)
noncomputable def law05_FieldOrder_T (R : Type) (law05_FieldOrder_7_0_L : law05_FieldOrder_7_0_ty R) (law05_FieldOrder_14_0_L : law05_FieldOrder_14_0_ty R) : Nat → Option (Hint × LSpec R) := fun i => match i with
  | 7 => some (law05_FieldOrder_7_0_h, (loopBy law05_FieldOrder_7_0_p law05_FieldOrder_7_0_q (law05_FieldOrder_7_0_rr law05_FieldOrder_7_0_L) loopNo))
  | 14 => some (law05_FieldOrder_14_0_h, (loopBy law05_FieldOrder_14_0_p law05_FieldOrder_14_0_q (law05_FieldOrder_14_0_rr law05_FieldOrder_14_0_L) loopNo))
  | _ => none

theorem law05_FieldOrder_7_0_B_ok {R : Type} (law05_awake : law05_awake_ty R) (law04_Fit : law04_Fit_ty R) (field_Make : field_Make_ty R) (field_Check : field_Check_ty R) (law05_FieldOrder_7_0_L : law05_FieldOrder_7_0_ty R) (law05_FieldOrder_14_0_L : law05_FieldOrder_14_0_ty R) (K : Ex → St → Option R) (rc : St → Option R) (d : law05_FieldOrder_7_0_D) : roundOf tt (law05_FieldOrder_E R law05_awake law04_Fit field_Make field_Check) (law05_FieldOrder_T R law05_FieldOrder_7_0_L law05_FieldOrder_14_0_L) 0 ((loopsOf (codeOf Try.f5)).getD 0 .skip) law05_FieldOrder_7_0_h (law05_FieldOrder_7_0_enc d) rc K = law05_FieldOrder_7_0_s law04_Fit K (fun d => rc (law05_FieldOrder_7_0_enc d)) d := by kernel_rfl
theorem law05_FieldOrder_7_0_A_succ {R : Type} (K : Ex → St → Option R) (n : Nat) (d : law05_FieldOrder_7_0_D) : law05_FieldOrder_7_0_A K (n + 1) d = law05_FieldOrder_7_0_s law04_Fit K (law05_FieldOrder_7_0_A K n) d := by kernel_rfl
theorem law05_FieldOrder_7_0_A_zero {R : Type} (K : Ex → St → Option R) (d : law05_FieldOrder_7_0_D) : law05_FieldOrder_7_0_A K 0 d = none := by kernel_rfl
theorem law05_FieldOrder_7_0_e_ok (x : Pat.dens law05_FieldOrder_7_0_p) (y : HPat.dens law05_FieldOrder_7_0_q) : (⟨Pat.encL law05_FieldOrder_7_0_p x, HPat.encL law05_FieldOrder_7_0_q y⟩ : St) = law05_FieldOrder_7_0_enc (law05_FieldOrder_7_0_d x y) := by kernel_rfl
theorem law05_FieldOrder_7_0_r_ok {R : Type} (x : Pat.dens law05_FieldOrder_7_0_p) (y : HPat.dens law05_FieldOrder_7_0_q) (K : Ex → St → Option R) : law05_FieldOrder_7_0_rr (law05_FieldOrder_7_0_L) x y K = law05_FieldOrder_7_0_A K (law05_FieldOrder_7_0_f x y) (law05_FieldOrder_7_0_d x y) := by kernel_rfl
theorem law05_FieldOrder_7_0_ok {R : Type} (other : LSpec R) (ho : LsOk tt (law05_FieldOrder_E R law05_awake law04_Fit field_Make field_Check) (law05_FieldOrder_T R law05_FieldOrder_7_0_L law05_FieldOrder_14_0_L) 0 ((loopsOf (codeOf Try.f5)).getD 0 .skip) law05_FieldOrder_7_0_h other) : LsOk tt (law05_FieldOrder_E R law05_awake law04_Fit field_Make field_Check) (law05_FieldOrder_T R law05_FieldOrder_7_0_L law05_FieldOrder_14_0_L) 0 ((loopsOf (codeOf Try.f5)).getD 0 .skip) law05_FieldOrder_7_0_h (loopBy law05_FieldOrder_7_0_p law05_FieldOrder_7_0_q (law05_FieldOrder_7_0_rr (law05_FieldOrder_7_0_L)) other) :=
  loopBy_tie (A := law05_FieldOrder_7_0_A) ho (loop_tie law05_FieldOrder_7_0_enc (law05_FieldOrder_7_0_s law04_Fit) (law05_FieldOrder_7_0_A) (law05_FieldOrder_7_0_A_zero) (law05_FieldOrder_7_0_B_ok law05_awake law04_Fit field_Make field_Check law05_FieldOrder_7_0_L law05_FieldOrder_14_0_L) (law05_FieldOrder_7_0_A_succ)) law05_FieldOrder_7_0_f law05_FieldOrder_7_0_d law05_FieldOrder_7_0_e_ok (law05_FieldOrder_7_0_r_ok)

theorem law05_FieldOrder_14_0_B_ok {R : Type} (law05_awake : law05_awake_ty R) (law04_Fit : law04_Fit_ty R) (field_Make : field_Make_ty R) (field_Check : field_Check_ty R) (law05_FieldOrder_7_0_L : law05_FieldOrder_7_0_ty R) (law05_FieldOrder_14_0_L : law05_FieldOrder_14_0_ty R) (K : Ex → St → Option R) (rc : St → Option R) (d : law05_FieldOrder_14_0_D) : roundOf tt (law05_FieldOrder_E R law05_awake law04_Fit field_Make field_Check) (law05_FieldOrder_T R law05_FieldOrder_7_0_L law05_FieldOrder_14_0_L) 0 ((loopsOf (codeOf Try.f5)).getD 1 .skip) law05_FieldOrder_14_0_h (law05_FieldOrder_14_0_enc d) rc K = law05_FieldOrder_14_0_s K (fun d => rc (law05_FieldOrder_14_0_enc d)) d := by kernel_rfl
theorem law05_FieldOrder_14_0_A_succ {R : Type} (K : Ex → St → Option R) (n : Nat) (d : law05_FieldOrder_14_0_D) : law05_FieldOrder_14_0_A K (n + 1) d = law05_FieldOrder_14_0_s K (law05_FieldOrder_14_0_A K n) d := by kernel_rfl
theorem law05_FieldOrder_14_0_A_zero {R : Type} (K : Ex → St → Option R) (d : law05_FieldOrder_14_0_D) : law05_FieldOrder_14_0_A K 0 d = none := by kernel_rfl
theorem law05_FieldOrder_14_0_e_ok (x : Pat.dens law05_FieldOrder_14_0_p) (y : HPat.dens law05_FieldOrder_14_0_q) : (⟨Pat.encL law05_FieldOrder_14_0_p x, HPat.encL law05_FieldOrder_14_0_q y⟩ : St) = law05_FieldOrder_14_0_enc (law05_FieldOrder_14_0_d x y) := by kernel_rfl
theorem law05_FieldOrder_14_0_r_ok {R : Type} (x : Pat.dens law05_FieldOrder_14_0_p) (y : HPat.dens law05_FieldOrder_14_0_q) (K : Ex → St → Option R) : law05_FieldOrder_14_0_rr (law05_FieldOrder_14_0_L) x y K = law05_FieldOrder_14_0_A K (law05_FieldOrder_14_0_f x y) (law05_FieldOrder_14_0_d x y) := by kernel_rfl
theorem law05_FieldOrder_14_0_ok {R : Type} (other : LSpec R) (ho : LsOk tt (law05_FieldOrder_E R law05_awake law04_Fit field_Make field_Check) (law05_FieldOrder_T R law05_FieldOrder_7_0_L law05_FieldOrder_14_0_L) 0 ((loopsOf (codeOf Try.f5)).getD 1 .skip) law05_FieldOrder_14_0_h other) : LsOk tt (law05_FieldOrder_E R law05_awake law04_Fit field_Make field_Check) (law05_FieldOrder_T R law05_FieldOrder_7_0_L law05_FieldOrder_14_0_L) 0 ((loopsOf (codeOf Try.f5)).getD 1 .skip) law05_FieldOrder_14_0_h (loopBy law05_FieldOrder_14_0_p law05_FieldOrder_14_0_q (law05_FieldOrder_14_0_rr (law05_FieldOrder_14_0_L)) other) :=
  loopBy_tie (A := law05_FieldOrder_14_0_A) ho (loop_tie law05_FieldOrder_14_0_enc (law05_FieldOrder_14_0_s) (law05_FieldOrder_14_0_A) (law05_FieldOrder_14_0_A_zero) (law05_FieldOrder_14_0_B_ok law05_awake law04_Fit field_Make field_Check law05_FieldOrder_7_0_L law05_FieldOrder_14_0_L) (law05_FieldOrder_14_0_A_succ)) law05_FieldOrder_14_0_f law05_FieldOrder_14_0_d law05_FieldOrder_14_0_e_ok (law05_FieldOrder_14_0_r_ok)

noncomputable def law05_FieldOrder_X {R : Type} (law05_awake : law05_awake_ty R) (law04_Fit : law04_Fit_ty R) (field_Make : field_Make_ty R) (field_Check : field_Check_ty R) (law05_FieldOrder_7_0_L : law05_FieldOrder_7_0_ty R) (law05_FieldOrder_14_0_L : law05_FieldOrder_14_0_ty R) (x1 : List Fld) (x2 : List Raw) (x3 : Str) (x4 : Raw) (k0 : Bool → Option R) : Option R :=
  law05_awake (fun y5 => let j60 := fun (z6 : List Fld) => law05_FieldOrder_7_0_L (List.length z6 + List.length x2 + List.length x3 + List.length ([] : List Str) + List.length ([] : List Json) + Int.natAbs 0 + Raw.fu (⟨x4.kind, x4.mant, x4.exp, x4.text, x4.items⟩ : Raw) + 3) z6 x2 x3 y5 ([] : List Str) ([] : List Json) 0 (⟨x4.kind, x4.mant, x4.exp, x4.text, x4.items⟩ : Raw) (fun y17 y18 y19 y20 y21 y22 => law05_FieldOrder_14_0_L (List.length y17 + List.length y18 + List.length y20 + List.length y21 + Int.natAbs 0 + Raw.fu (⟨y22.kind, y22.mant, y22.exp, y22.text, y22.items⟩ : Raw) + 3) y17 y18 y19 y20 y21 0 (⟨y22.kind, y22.mant, y22.exp, y22.text, y22.items⟩ : Raw) (fun y37 y38 y39 y40 y41 y42 => field_Make y40 y41 (fun y50 => law04_Fit (⟨y42.kind, y42.mant, y42.exp, y42.text, y42.items⟩ : Raw) 2 (fun y51 => chk (decide ((1 + y40.length) * 16 ≤ 140737488355328)) (chk (decide ((1 + y41.length) * 88 ≤ 140737488355328)) (field_Make (([y38] : List Str) ++ y40) (([(⟨y51.kind, ⟨y51.num.mant, y51.num.exp⟩, y51.text, y51.names, y51.items⟩ : Json)] : List Json) ++ y41) (fun y52 => chk (decide ((0 + y40.length) * 16 ≤ 140737488355328)) (chk (decide ((y40.length + 1) * 16 ≤ 140737488355328)) (chk (decide ((0 + y41.length) * 88 ≤ 140737488355328)) (chk (decide ((y41.length + 1) * 88 ≤ 140737488355328)) (field_Make (y40 ++ ([y38] : List Str)) (y41 ++ ([(⟨y51.kind, ⟨y51.num.mant, y51.num.exp⟩, y51.text, y51.names, y51.items⟩ : Json)] : List Json)) (fun y53 => field_Check (⟨y50.kind, ⟨y50.num.mant, y50.num.exp⟩, y50.text, y50.names, y50.items⟩ : Json) y37 (fun y54 => bif (!y39) then (k0 false) else (field_Check (⟨y52.kind, ⟨y52.num.mant, y52.num.exp⟩, y52.text, y52.names, y52.items⟩ : Json) y37 (fun y55 => bif (y55 != y54) then (k0 false) else (field_Check (⟨y53.kind, ⟨y53.num.mant, y53.num.exp⟩, y53.text, y53.names, y53.items⟩ : Json) y37 (fun y56 => bif (y56 != y54) then (k0 false) else (bif (y51.kind == 7) then (k0 true) else (bif ((y37.length : Int) == 0) then (k0 true) else (field_Check (⟨y51.kind, ⟨y51.num.mant, y51.num.exp⟩, y51.text, y51.names, y51.items⟩ : Json) y37 (fun y58 => k0 (y58 == 0))))))))))))))))))))) (fun y43 y44 y45 y46 y47 y48 y49 => k0 y45)) (fun y23 y24 y25 y26 y27 y28 y29 => k0 y25); bif (decide ((x1.length : Int) > (8 : Int))) then (chk (decide ((8 : Int) ≤ x1.length)) (j60 ((x1.drop 0).take (8 - 0)))) else (j60 x1))
noncomputable def law05_FieldOrder {R : Type} : law05_FieldOrder_ty R := fun x1 x2 x3 x4 k0 => law05_FieldOrder_X law05_awake law04_Fit field_Make field_Check law05_FieldOrder_7_0_L law05_FieldOrder_14_0_L x1 x2 x3 x4 k0
theorem law05_FieldOrder_ok {R : Type} (law05_awake : law05_awake_ty R) (law04_Fit : law04_Fit_ty R) (field_Make : field_Make_ty R) (field_Check : field_Check_ty R) (law05_FieldOrder_7_0_L : law05_FieldOrder_7_0_ty R) (law05_FieldOrder_14_0_L : law05_FieldOrder_14_0_ty R) (x1 : List Fld) (x2 : List Raw) (x3 : Str) (x4 : Raw) (k : V → Heap → Option R) : funK tt (law05_FieldOrder_E R law05_awake law04_Fit field_Make field_Check) (law05_FieldOrder_T R law05_FieldOrder_7_0_L law05_FieldOrder_14_0_L) false Try.f5 (codeOf Try.f5) [.sl .fld x1 .no, .sl .raw x2 .no, .str x3, .agg [.int .i64 x4.kind, .int .i64 x4.mant, .int .i64 x4.exp, .sl (.int .i64) x4.text .no, .sl .raw x4.items .no]] [] k =
    law05_FieldOrder_X law05_awake law04_Fit field_Make field_Check law05_FieldOrder_7_0_L law05_FieldOrder_14_0_L x1 x2 x3 x4 (fun q0 => k (.bool q0) []) := by kernel_rfl
theorem law05_FieldOrder_loops (R : Type) : ∀ a ∈ loopsOf (codeOf Try.f5), LoopOk tt (law05_FieldOrder_E R law05_awake law04_Fit field_Make field_Check) (law05_FieldOrder_T R law05_FieldOrder_7_0_L law05_FieldOrder_14_0_L) 0 a := by
  refine loops_ok 2 (by kernel_rfl) fun i hi => ?_
  match i, hi with
  | 0, _ => exact loopOk_some (by kernel_rfl) (law05_FieldOrder_7_0_ok _ loopNo_ok)
  | 1, _ => exact loopOk_some (by kernel_rfl) (law05_FieldOrder_14_0_ok _ loopNo_ok)
  | n + 2, hi => omega
theorem law05_FieldOrder_S_ok (R : Type) (other : Yard.Spec R) (ho : Yard.Spec.Ok Try.prog 5 other) : Yard.Spec.Ok Try.prog 5 (specBy law05_FieldOrder_p law05_FieldOrder_q (law05_FieldOrder_rr law05_FieldOrder) other) :=
  specBy_ok ho (funK_sound TT mixed (law05_FieldOrder_EOk R) (keep := false) rfl rfl rfl rfl 0 (law05_FieldOrder_loops R)) fun (x : Pat.dens law05_FieldOrder_p) (y : HPat.dens law05_FieldOrder_q) k => law05_FieldOrder_ok law05_awake law04_Fit field_Make field_Check law05_FieldOrder_7_0_L law05_FieldOrder_14_0_L x.1 x.2.1 x.2.2.1 (⟨x.2.2.2.1.1, x.2.2.2.1.2.1, x.2.2.2.1.2.2.1, x.2.2.2.1.2.2.2.1, x.2.2.2.1.2.2.2.2.1⟩ : Raw) k

/-! ### humpyard/humpyardlaw05.FieldMissing -/
abbrev law05_FieldMissing_af93_ty (R : Type) : Type := (List Fld) → (Bool → Option R) → Option R
abbrev law05_FieldMissing_af93_p : List Pat := [.leaf (.sl .fld)]
abbrev law05_FieldMissing_af93_q : List HPat := []
noncomputable def law05_FieldMissing_af93_rr {R : Type} (fn : law05_FieldMissing_af93_ty R) : Pat.dens law05_FieldMissing_af93_p → HPat.dens law05_FieldMissing_af93_q → (V → Heap → Option R) → Option R := fun x y k => fn x.1 (fun q0 => k (.bool q0) [])
abbrev law05_FieldMissing_af93_6_0_ty (R : Type) : Type := Nat → Bool → Nat → Int → Int → (List Fld) → Json → (Bool → Nat → Int → (List Fld) → Json → Option R) → Option R
abbrev law05_FieldMissing_af93_13_0_ty (R : Type) : Type := Nat → Bool → Nat → Int → (List Fld) → Json → (Bool → Nat → (List Fld) → Json → Option R) → Option R
noncomputable def law05_FieldMissing_af93_E (R : Type) (law05_awake : law05_awake_ty R) (field_Make : field_Make_ty R) (field_Check : field_Check_ty R) : Env R := fun i => match i with
  | 22 => some (true, (specBy law05_awake_p law05_awake_q (law05_awake_rr law05_awake) specNo))
  | 24 => some (true, (specBy field_Make_p field_Make_q (field_Make_rr field_Make) specNo))
  | 25 => some (true, (specBy field_Check_p field_Check_q (field_Check_rr field_Check) specNo))
  | _ => none
theorem law05_FieldMissing_af93_EOk (R : Type) : EOk Try.prog (law05_FieldMissing_af93_E R law05_awake field_Make field_Check) := by
  intro i b sp h
  unfold law05_FieldMissing_af93_E at h
  split at h
  · cases h; exact (law05_awake_S_ok R _ (specNo_ok _))
  · cases h; exact (field_Make_S_ok R _ (specNo_ok _))
  · cases h; exact (field_Check_S_ok R _ (specNo_ok _))
  · cases h

noncomputable def law05_FieldMissing_af93_6_0_B {R : Type} (rec' : Bool → Nat → Int → Int → (List Fld) → Json → Option R) (x4 : Bool) (x5 : Nat) (x6 : Int) (x7 : Int) (x8 : List Fld) (x9 : Json) (e0 : Bool → Nat → Int → (List Fld) → Json → Option R) : Option R :=
  bif (decide (x7 ≥ (0 : Int))) then (chk (decide ((0 : Int) ≤ x7) && decide (x7 < x5)) (chk (decide (x7.toNat < x8.length)) (bif (!(x8.getD x7.toNat (Ty.dflt .fld)).free) then (rec' x4 x5 x7 (IntKind.i64.wrap (x7 - 1)) x8 (⟨x9.kind, ⟨x9.num.mant, x9.num.exp⟩, x9.text, x9.names, x9.items⟩ : Json)) else (rec' x4 x5 x6 (IntKind.i64.wrap (x7 - 1)) x8 (⟨x9.kind, ⟨x9.num.mant, x9.num.exp⟩, x9.text, x9.names, x9.items⟩ : Json))))) else (e0 x4 x5 x6 x8 (⟨x9.kind, ⟨x9.num.mant, x9.num.exp⟩, x9.text, x9.names, x9.items⟩ : Json))
noncomputable def law05_FieldMissing_af93_6_0_L {R : Type} : law05_FieldMissing_af93_6_0_ty R
  | 0, _, _, _, _, _, _, _ => none
  | n + 1, x0', x1', x2', x3', x4', x5', e0 => law05_FieldMissing_af93_6_0_B (fun x0' x1' x2' x3' x4' x5' => law05_FieldMissing_af93_6_0_L n x0' x1' x2' x3' x4' x5' e0) x0' x1' x2' x3' x4' x5' e0
noncomputable def law05_FieldMissing_af93_6_0_h : Hint := { live := [3, 4, 5, 6, 7], own := [], rows := [], cells := [], drop := [], out := [2, 3, 4, 5, 6] }
abbrev law05_FieldMissing_af93_6_0_D : Type := Bool × Nat × Int × Int × (List Fld) × Json
noncomputable def law05_FieldMissing_af93_6_0_enc : law05_FieldMissing_af93_6_0_D → St := fun d => ⟨[.undef, .undef, .undef, .bool d.1, .row 0 d.2.1, .ptr 1 0, .int .i64 d.2.2.1, .int .i64 d.2.2.2.1, .undef, .undef, .undef, .undef, .undef, .undef, .undef, .undef, .undef, .undef, .undef, .undef, .undef, .undef, .undef, .undef, .undef, .undef, .undef, .undef, .undef, .undef, .undef, .undef, .undef, .undef, .undef, .undef, .undef, .undef, .undef, .undef, .undef, .undef, .undef, .undef, .undef, .undef, .undef, .undef, .undef, .undef, .undef, .undef, .undef], [.row .fld d.2.2.2.2.1, .cells [.int .i64 d.2.2.2.2.2.kind, .int .i64 d.2.2.2.2.2.num.mant, .int .i64 d.2.2.2.2.2.num.exp, .str d.2.2.2.2.2.text, .sl .str d.2.2.2.2.2.names .no, .sl .json d.2.2.2.2.2.items .no]]⟩
noncomputable def law05_FieldMissing_af93_6_0_x0 {R : Type} (K : Ex → St → Option R) (q0 : Bool) (q1 : Nat) (q2 : Int) (q3 : List Fld) (q4 : Json) : Option R := K (.exit 0) ⟨[.undef, .undef, .undef, .bool q0, .row 0 q1, .ptr 1 0, .int .i64 q2, .undef, .undef, .undef, .undef, .undef, .undef, .undef, .undef, .undef, .undef, .undef, .undef, .undef, .undef, .undef, .undef, .undef, .undef, .undef, .undef, .undef, .undef, .undef, .undef, .undef, .undef, .undef, .undef, .undef, .undef, .undef, .undef, .undef, .undef, .undef, .undef, .undef, .undef, .undef, .undef, .undef, .undef, .undef, .undef, .undef, .undef], [.row .fld q3, .cells [.int .i64 q4.kind, .int .i64 q4.num.mant, .int .i64 q4.num.exp, .str q4.text, .sl .str q4.names .no, .sl .json q4.items .no]]⟩
noncomputable def law05_FieldMissing_af93_6_0_s {R : Type} (K : Ex → St → Option R) (rc : law05_FieldMissing_af93_6_0_D → Option R) (d : law05_FieldMissing_af93_6_0_D) : Option R := law05_FieldMissing_af93_6_0_B (fun z0 z1 z2 z3 z4 z5 => rc (z0, z1, z2, z3, z4, z5)) d.1 d.2.1 d.2.2.1 d.2.2.2.1 d.2.2.2.2.1 d.2.2.2.2.2 (law05_FieldMissing_af93_6_0_x0 K)
noncomputable def law05_FieldMissing_af93_6_0_A {R : Type} (K : Ex → St → Option R) (n : Nat) (d : law05_FieldMissing_af93_6_0_D) : Option R := law05_FieldMissing_af93_6_0_L n d.1 d.2.1 d.2.2.1 d.2.2.2.1 d.2.2.2.2.1 d.2.2.2.2.2 (law05_FieldMissing_af93_6_0_x0 K)
abbrev law05_FieldMissing_af93_6_0_p : List Pat := [.leaf (.undef), .leaf (.undef), .leaf (.undef), .leaf (.bool), .leaf (.row 0), .leaf (.ptr 1 0), .leaf (.int .i64), .leaf (.int .i64), .leaf (.undef), .leaf (.undef), .leaf (.undef), .leaf (.undef), .leaf (.undef), .leaf (.undef), .leaf (.undef), .leaf (.undef), .leaf (.undef), .leaf (.undef), .leaf (.undef), .leaf (.undef), .leaf (.undef), .leaf (.undef), .leaf (.undef), .leaf (.undef), .leaf (.undef), .leaf (.undef), .leaf (.undef), .leaf (.undef), .leaf (.undef), .leaf (.undef), .leaf (.undef), .leaf (.undef), .leaf (.undef), .leaf (.undef), .leaf (.undef), .leaf (.undef), .leaf (.undef), .leaf (.undef), .leaf (.undef), .leaf (.undef), .leaf (.undef), .leaf (.undef), .leaf (.undef), .leaf (.undef), .leaf (.undef), .leaf (.undef), .leaf (.undef), .leaf (.undef), .leaf (.undef), .leaf (.undef), .leaf (.undef), .leaf (.undef), .leaf (.undef)]
abbrev law05_FieldMissing_af93_6_0_q : List HPat := [.row .fld, .cells [.int .i64, .int .i64, .int .i64, .str, .sl .str, .sl .json]]
noncomputable def law05_FieldMissing_af93_6_0_f (x : Pat.dens law05_FieldMissing_af93_6_0_p) (y : HPat.dens law05_FieldMissing_af93_6_0_q) : Nat := (Int.natAbs x.2.2.2.2.2.2.1 + Int.natAbs x.2.2.2.2.2.2.2.1 + List.length y.1 + Json.fu (⟨y.2.1.1, ⟨y.2.1.2.1, y.2.1.2.2.1⟩, y.2.1.2.2.2.1, y.2.1.2.2.2.2.1, y.2.1.2.2.2.2.2.1⟩ : Json) + 3)
noncomputable def law05_FieldMissing_af93_6_0_d (x : Pat.dens law05_FieldMissing_af93_6_0_p) (y : HPat.dens law05_FieldMissing_af93_6_0_q) : law05_FieldMissing_af93_6_0_D := (x.2.2.2.1, x.2.2.2.2.1, x.2.2.2.2.2.2.1, x.2.2.2.2.2.2.2.1, y.1, (⟨y.2.1.1, ⟨y.2.1.2.1, y.2.1.2.2.1⟩, y.2.1.2.2.2.1, y.2.1.2.2.2.2.1, y.2.1.2.2.2.2.2.1⟩ : Json))
noncomputable def law05_FieldMissing_af93_6_0_rr {R : Type} (L : law05_FieldMissing_af93_6_0_ty R) : Pat.dens law05_FieldMissing_af93_6_0_p → HPat.dens law05_FieldMissing_af93_6_0_q → (Ex → St → Option R) → Option R := fun x y K => L (law05_FieldMissing_af93_6_0_f x y) x.2.2.2.1 x.2.2.2.2.1 x.2.2.2.2.2.2.1 x.2.2.2.2.2.2.2.1 y.1 (⟨y.2.1.1, ⟨y.2.1.2.1, y.2.1.2.2.1⟩, y.2.1.2.2.2.1, y.2.1.2.2.2.2.1, y.2.1.2.2.2.2.2.1⟩ : Json) (law05_FieldMissing_af93_6_0_x0 K)
noncomputable def law05_FieldMissing_af93_13_0_B {R : Type} (rec' : Bool → Nat → Int → (List Fld) → Json → Option R) (x17 : Bool) (x18 : Nat) (x19 : Int) (x20 : List Fld) (x21 : Json) (e0 : Bool → Nat → (List Fld) → Json → Option R) : Option R :=
  bif (decide (x19 < (x18 : Int))) then (chk (decide ((0 : Int) ≤ x19) && decide (x19 < x18)) (chk (decide (x19.toNat < x20.length)) (rec' x17 x18 (IntKind.i64.wrap (x19 + 1)) (x20.set x19.toNat (⟨(x20.getD x19.toNat (Ty.dflt .fld)).name, (x20.getD x19.toNat (Ty.dflt .fld)).kind, (x20.getD x19.toNat (Ty.dflt .fld)).low, (x20.getD x19.toNat (Ty.dflt .fld)).high, true⟩ : Fld)) (⟨x21.kind, ⟨x21.num.mant, x21.num.exp⟩, x21.text, x21.names, x21.items⟩ : Json)))) else (e0 x17 x18 x20 (⟨x21.kind, ⟨x21.num.mant, x21.num.exp⟩, x21.text, x21.names, x21.items⟩ : Json))
noncomputable def law05_FieldMissing_af93_13_0_L {R : Type} : law05_FieldMissing_af93_13_0_ty R
  | 0, _, _, _, _, _, _ => none
  | n + 1, x0', x1', x2', x3', x4', e0 => law05_FieldMissing_af93_13_0_B (fun x0' x1' x2' x3' x4' => law05_FieldMissing_af93_13_0_L n x0' x1' x2' x3' x4' e0) x0' x1' x2' x3' x4' e0
noncomputable def law05_FieldMissing_af93_13_0_h : Hint := { live := [3, 4, 5, 8], own := [], rows := [], cells := [], drop := [], out := [2, 3, 4, 5] }
abbrev law05_FieldMissing_af93_13_0_D : Type := Bool × Nat × Int × (List Fld) × Json
noncomputable def law05_FieldMissing_af93_13_0_enc : law05_FieldMissing_af93_13_0_D → St := fun d => ⟨[.undef, .undef, .undef, .bool d.1, .row 0 d.2.1, .ptr 1 0, .undef, .undef, .int .i64 d.2.2.1, .undef, .undef, .undef, .undef, .undef, .undef, .undef, .undef, .undef, .undef, .undef, .undef, .undef, .undef, .undef, .undef, .undef, .undef, .undef, .undef, .undef, .undef, .undef, .undef, .undef, .undef, .undef, .undef, .undef, .undef, .undef, .undef, .undef, .undef, .undef, .undef, .undef, .undef, .undef, .undef, .undef, .undef, .undef, .undef], [.row .fld d.2.2.2.1, .cells [.int .i64 d.2.2.2.2.kind, .int .i64 d.2.2.2.2.num.mant, .int .i64 d.2.2.2.2.num.exp, .str d.2.2.2.2.text, .sl .str d.2.2.2.2.names .no, .sl .json d.2.2.2.2.items .no]]⟩
noncomputable def law05_FieldMissing_af93_13_0_x0 {R : Type} (K : Ex → St → Option R) (q0 : Bool) (q1 : Nat) (q2 : List Fld) (q3 : Json) : Option R := K (.exit 2) ⟨[.undef, .undef, .undef, .bool q0, .row 0 q1, .ptr 1 0, .undef, .undef, .undef, .undef, .undef, .undef, .undef, .undef, .undef, .undef, .undef, .undef, .undef, .undef, .undef, .undef, .undef, .undef, .undef, .undef, .undef, .undef, .undef, .undef, .undef, .undef, .undef, .undef, .undef, .undef, .undef, .undef, .undef, .undef, .undef, .undef, .undef, .undef, .undef, .undef, .undef, .undef, .undef, .undef, .undef, .undef, .undef], [.row .fld q2, .cells [.int .i64 q3.kind, .int .i64 q3.num.mant, .int .i64 q3.num.exp, .str q3.text, .sl .str q3.names .no, .sl .json q3.items .no]]⟩
noncomputable def law05_FieldMissing_af93_13_0_s {R : Type} (K : Ex → St → Option R) (rc : law05_FieldMissing_af93_13_0_D → Option R) (d : law05_FieldMissing_af93_13_0_D) : Option R := law05_FieldMissing_af93_13_0_B (fun z0 z1 z2 z3 z4 => rc (z0, z1, z2, z3, z4)) d.1 d.2.1 d.2.2.1 d.2.2.2.1 d.2.2.2.2 (law05_FieldMissing_af93_13_0_x0 K)
noncomputable def law05_FieldMissing_af93_13_0_A {R : Type} (K : Ex → St → Option R) (n : Nat) (d : law05_FieldMissing_af93_13_0_D) : Option R := law05_FieldMissing_af93_13_0_L n d.1 d.2.1 d.2.2.1 d.2.2.2.1 d.2.2.2.2 (law05_FieldMissing_af93_13_0_x0 K)
abbrev law05_FieldMissing_af93_13_0_p : List Pat := [.leaf (.undef), .leaf (.undef), .leaf (.undef), .leaf (.bool), .leaf (.row 0), .leaf (.ptr 1 0), .leaf (.undef), .leaf (.undef), .leaf (.int .i64), .leaf (.undef), .leaf (.undef), .leaf (.undef), .leaf (.undef), .leaf (.undef), .leaf (.undef), .leaf (.undef), .leaf (.undef), .leaf (.undef), .leaf (.undef), .leaf (.undef), .leaf (.undef), .leaf (.undef), .leaf (.undef), .leaf (.undef), .leaf (.undef), .leaf (.undef), .leaf (.undef), .leaf (.undef), .leaf (.undef), .leaf (.undef), .leaf (.undef), .leaf (.undef), .leaf (.undef), .leaf (.undef), .leaf (.undef), .leaf (.undef), .leaf (.undef), .leaf (.undef), .leaf (.undef), .leaf (.undef), .leaf (.undef), .leaf (.undef), .leaf (.undef), .leaf (.undef), .leaf (.undef), .leaf (.undef), .leaf (.undef), .leaf (.undef), .leaf (.undef), .leaf (.undef), .leaf (.undef), .leaf (.undef), .leaf (.undef)]
abbrev law05_FieldMissing_af93_13_0_q : List HPat := [.row .fld, .cells [.int .i64, .int .i64, .int .i64, .str, .sl .str, .sl .json]]
noncomputable def law05_FieldMissing_af93_13_0_f (x : Pat.dens law05_FieldMissing_af93_13_0_p) (y : HPat.dens law05_FieldMissing_af93_13_0_q) : Nat := (Int.natAbs x.2.2.2.2.2.2.2.2.1 + List.length y.1 + Json.fu (⟨y.2.1.1, ⟨y.2.1.2.1, y.2.1.2.2.1⟩, y.2.1.2.2.2.1, y.2.1.2.2.2.2.1, y.2.1.2.2.2.2.2.1⟩ : Json) + 3)
noncomputable def law05_FieldMissing_af93_13_0_d (x : Pat.dens law05_FieldMissing_af93_13_0_p) (y : HPat.dens law05_FieldMissing_af93_13_0_q) : law05_FieldMissing_af93_13_0_D := (x.2.2.2.1, x.2.2.2.2.1, x.2.2.2.2.2.2.2.2.1, y.1, (⟨y.2.1.1, ⟨y.2.1.2.1, y.2.1.2.2.1⟩, y.2.1.2.2.2.1, y.2.1.2.2.2.2.1, y.2.1.2.2.2.2.2.1⟩ : Json))
noncomputable def law05_FieldMissing_af93_13_0_rr {R : Type} (L : law05_FieldMissing_af93_13_0_ty R) : Pat.dens law05_FieldMissing_af93_13_0_p → HPat.dens law05_FieldMissing_af93_13_0_q → (Ex → St → Option R) → Option R := fun x y K => L (law05_FieldMissing_af93_13_0_f x y) x.2.2.2.1 x.2.2.2.2.1 x.2.2.2.2.2.2.2.2.1 y.1 (⟨y.2.1.1, ⟨y.2.1.2.1, y.2.1.2.2.1⟩, y.2.1.2.2.2.1, y.2.1.2.2.2.2.1, y.2.1.2.2.2.2.2.1⟩ : Json) (law05_FieldMissing_af93_13_0_x0 K)
noncomputable def law05_FieldMissing_af93_T (R : Type) (law05_FieldMissing_af93_6_0_L : law05_FieldMissing_af93_6_0_ty R) (law05_FieldMissing_af93_13_0_L : law05_FieldMissing_af93_13_0_ty R) : Nat → Option (Hint × LSpec R) := fun i => match i with
  | 6 => some (law05_FieldMissing_af93_6_0_h, (loopBy law05_FieldMissing_af93_6_0_p law05_FieldMissing_af93_6_0_q (law05_FieldMissing_af93_6_0_rr law05_FieldMissing_af93_6_0_L) loopNo))
  | 13 => some (law05_FieldMissing_af93_13_0_h, (loopBy law05_FieldMissing_af93_13_0_p law05_FieldMissing_af93_13_0_q (law05_FieldMissing_af93_13_0_rr law05_FieldMissing_af93_13_0_L) loopNo))
  | _ => none

theorem law05_FieldMissing_af93_6_0_B_ok {R : Type} (law05_awake : law05_awake_ty R) (field_Make : field_Make_ty R) (field_Check : field_Check_ty R) (law05_FieldMissing_af93_6_0_L : law05_FieldMissing_af93_6_0_ty R) (law05_FieldMissing_af93_13_0_L : law05_FieldMissing_af93_13_0_ty R) (K : Ex → St → Option R) (rc : St → Option R) (d : law05_FieldMissing_af93_6_0_D) : roundOf (tt.mode [.fld]) (law05_FieldMissing_af93_E R law05_awake field_Make field_Check) (law05_FieldMissing_af93_T R law05_FieldMissing_af93_6_0_L law05_FieldMissing_af93_13_0_L) 0 ((loopsOf (codeOf Try.f6)).getD 0 .skip) law05_FieldMissing_af93_6_0_h (law05_FieldMissing_af93_6_0_enc d) rc K = law05_FieldMissing_af93_6_0_s K (fun d => rc (law05_FieldMissing_af93_6_0_enc d)) d := by kernel_rfl
theorem law05_FieldMissing_af93_6_0_A_succ {R : Type} (K : Ex → St → Option R) (n : Nat) (d : law05_FieldMissing_af93_6_0_D) : law05_FieldMissing_af93_6_0_A K (n + 1) d = law05_FieldMissing_af93_6_0_s K (law05_FieldMissing_af93_6_0_A K n) d := by kernel_rfl
theorem law05_FieldMissing_af93_6_0_A_zero {R : Type} (K : Ex → St → Option R) (d : law05_FieldMissing_af93_6_0_D) : law05_FieldMissing_af93_6_0_A K 0 d = none := by kernel_rfl
theorem law05_FieldMissing_af93_6_0_e_ok (x : Pat.dens law05_FieldMissing_af93_6_0_p) (y : HPat.dens law05_FieldMissing_af93_6_0_q) : (⟨Pat.encL law05_FieldMissing_af93_6_0_p x, HPat.encL law05_FieldMissing_af93_6_0_q y⟩ : St) = law05_FieldMissing_af93_6_0_enc (law05_FieldMissing_af93_6_0_d x y) := by kernel_rfl
theorem law05_FieldMissing_af93_6_0_r_ok {R : Type} (x : Pat.dens law05_FieldMissing_af93_6_0_p) (y : HPat.dens law05_FieldMissing_af93_6_0_q) (K : Ex → St → Option R) : law05_FieldMissing_af93_6_0_rr (law05_FieldMissing_af93_6_0_L) x y K = law05_FieldMissing_af93_6_0_A K (law05_FieldMissing_af93_6_0_f x y) (law05_FieldMissing_af93_6_0_d x y) := by kernel_rfl
theorem law05_FieldMissing_af93_6_0_ok {R : Type} (other : LSpec R) (ho : LsOk (tt.mode [.fld]) (law05_FieldMissing_af93_E R law05_awake field_Make field_Check) (law05_FieldMissing_af93_T R law05_FieldMissing_af93_6_0_L law05_FieldMissing_af93_13_0_L) 0 ((loopsOf (codeOf Try.f6)).getD 0 .skip) law05_FieldMissing_af93_6_0_h other) : LsOk (tt.mode [.fld]) (law05_FieldMissing_af93_E R law05_awake field_Make field_Check) (law05_FieldMissing_af93_T R law05_FieldMissing_af93_6_0_L law05_FieldMissing_af93_13_0_L) 0 ((loopsOf (codeOf Try.f6)).getD 0 .skip) law05_FieldMissing_af93_6_0_h (loopBy law05_FieldMissing_af93_6_0_p law05_FieldMissing_af93_6_0_q (law05_FieldMissing_af93_6_0_rr (law05_FieldMissing_af93_6_0_L)) other) :=
  loopBy_tie (A := law05_FieldMissing_af93_6_0_A) ho (loop_tie law05_FieldMissing_af93_6_0_enc (law05_FieldMissing_af93_6_0_s) (law05_FieldMissing_af93_6_0_A) (law05_FieldMissing_af93_6_0_A_zero) (law05_FieldMissing_af93_6_0_B_ok law05_awake field_Make field_Check law05_FieldMissing_af93_6_0_L law05_FieldMissing_af93_13_0_L) (law05_FieldMissing_af93_6_0_A_succ)) law05_FieldMissing_af93_6_0_f law05_FieldMissing_af93_6_0_d law05_FieldMissing_af93_6_0_e_ok (law05_FieldMissing_af93_6_0_r_ok)

theorem law05_FieldMissing_af93_13_0_B_ok {R : Type} (law05_awake : law05_awake_ty R) (field_Make : field_Make_ty R) (field_Check : field_Check_ty R) (law05_FieldMissing_af93_6_0_L : law05_FieldMissing_af93_6_0_ty R) (law05_FieldMissing_af93_13_0_L : law05_FieldMissing_af93_13_0_ty R) (K : Ex → St → Option R) (rc : St → Option R) (d : law05_FieldMissing_af93_13_0_D) : roundOf (tt.mode [.fld]) (law05_FieldMissing_af93_E R law05_awake field_Make field_Check) (law05_FieldMissing_af93_T R law05_FieldMissing_af93_6_0_L law05_FieldMissing_af93_13_0_L) 0 ((loopsOf (codeOf Try.f6)).getD 1 .skip) law05_FieldMissing_af93_13_0_h (law05_FieldMissing_af93_13_0_enc d) rc K = law05_FieldMissing_af93_13_0_s K (fun d => rc (law05_FieldMissing_af93_13_0_enc d)) d := by kernel_rfl
theorem law05_FieldMissing_af93_13_0_A_succ {R : Type} (K : Ex → St → Option R) (n : Nat) (d : law05_FieldMissing_af93_13_0_D) : law05_FieldMissing_af93_13_0_A K (n + 1) d = law05_FieldMissing_af93_13_0_s K (law05_FieldMissing_af93_13_0_A K n) d := by kernel_rfl
theorem law05_FieldMissing_af93_13_0_A_zero {R : Type} (K : Ex → St → Option R) (d : law05_FieldMissing_af93_13_0_D) : law05_FieldMissing_af93_13_0_A K 0 d = none := by kernel_rfl
theorem law05_FieldMissing_af93_13_0_e_ok (x : Pat.dens law05_FieldMissing_af93_13_0_p) (y : HPat.dens law05_FieldMissing_af93_13_0_q) : (⟨Pat.encL law05_FieldMissing_af93_13_0_p x, HPat.encL law05_FieldMissing_af93_13_0_q y⟩ : St) = law05_FieldMissing_af93_13_0_enc (law05_FieldMissing_af93_13_0_d x y) := by kernel_rfl
theorem law05_FieldMissing_af93_13_0_r_ok {R : Type} (x : Pat.dens law05_FieldMissing_af93_13_0_p) (y : HPat.dens law05_FieldMissing_af93_13_0_q) (K : Ex → St → Option R) : law05_FieldMissing_af93_13_0_rr (law05_FieldMissing_af93_13_0_L) x y K = law05_FieldMissing_af93_13_0_A K (law05_FieldMissing_af93_13_0_f x y) (law05_FieldMissing_af93_13_0_d x y) := by kernel_rfl
theorem law05_FieldMissing_af93_13_0_ok {R : Type} (other : LSpec R) (ho : LsOk (tt.mode [.fld]) (law05_FieldMissing_af93_E R law05_awake field_Make field_Check) (law05_FieldMissing_af93_T R law05_FieldMissing_af93_6_0_L law05_FieldMissing_af93_13_0_L) 0 ((loopsOf (codeOf Try.f6)).getD 1 .skip) law05_FieldMissing_af93_13_0_h other) : LsOk (tt.mode [.fld]) (law05_FieldMissing_af93_E R law05_awake field_Make field_Check) (law05_FieldMissing_af93_T R law05_FieldMissing_af93_6_0_L law05_FieldMissing_af93_13_0_L) 0 ((loopsOf (codeOf Try.f6)).getD 1 .skip) law05_FieldMissing_af93_13_0_h (loopBy law05_FieldMissing_af93_13_0_p law05_FieldMissing_af93_13_0_q (law05_FieldMissing_af93_13_0_rr (law05_FieldMissing_af93_13_0_L)) other) :=
  loopBy_tie (A := law05_FieldMissing_af93_13_0_A) ho (loop_tie law05_FieldMissing_af93_13_0_enc (law05_FieldMissing_af93_13_0_s) (law05_FieldMissing_af93_13_0_A) (law05_FieldMissing_af93_13_0_A_zero) (law05_FieldMissing_af93_13_0_B_ok law05_awake field_Make field_Check law05_FieldMissing_af93_6_0_L law05_FieldMissing_af93_13_0_L) (law05_FieldMissing_af93_13_0_A_succ)) law05_FieldMissing_af93_13_0_f law05_FieldMissing_af93_13_0_d law05_FieldMissing_af93_13_0_e_ok (law05_FieldMissing_af93_13_0_r_ok)

noncomputable def law05_FieldMissing_af93_X {R : Type} (law05_awake : law05_awake_ty R) (field_Make : field_Make_ty R) (field_Check : field_Check_ty R) (law05_FieldMissing_af93_6_0_L : law05_FieldMissing_af93_6_0_ty R) (law05_FieldMissing_af93_13_0_L : law05_FieldMissing_af93_13_0_ty R) (x1 : List Fld) (k0 : Bool → Option R) : Option R :=
  law05_awake (fun y2 => chk (decide ((0 : Int) ≤ (min (x1.length : Int) 8)) && decide ((min (x1.length : Int) 8) ≤ x1.length)) (chk (decide ((0 : Int) ≤ (min (x1.length : Int) 8))) (chk (decide ((0 + ((x1.drop 0).take ((min (x1.length : Int) 8).toNat - 0)).length) * 48 ≤ 140737488355328)) (field_Make ([] : List Str) ([] : List Json) (fun y3 => law05_FieldMissing_af93_6_0_L (Int.natAbs (-1) + Int.natAbs (IntKind.i64.wrap ((((x1.drop 0).take ((min (x1.length : Int) 8).toNat - 0)).length : Int) - 1)) + List.length ((x1.drop 0).take ((min (x1.length : Int) 8).toNat - 0)) + Json.fu (⟨y3.kind, ⟨y3.num.mant, y3.num.exp⟩, y3.text, y3.names, y3.items⟩ : Json) + 3) y2 (((x1.drop 0).take ((min (x1.length : Int) 8).toNat - 0)).length) (-1) (IntKind.i64.wrap ((((x1.drop 0).take ((min (x1.length : Int) 8).toNat - 0)).length : Int) - 1)) ((x1.drop 0).take ((min (x1.length : Int) 8).toNat - 0)) (⟨y3.kind, ⟨y3.num.mant, y3.num.exp⟩, y3.text, y3.names, y3.items⟩ : Json) (fun y11 y12 y13 y14 y15 => field_Check (⟨y15.kind, ⟨y15.num.mant, y15.num.exp⟩, y15.text, y15.names, y15.items⟩ : Json) y14 (fun y16 => bif (y16 != y13) then (k0 false) else (law05_FieldMissing_af93_13_0_L (Int.natAbs 0 + List.length y14 + Json.fu (⟨y15.kind, ⟨y15.num.mant, y15.num.exp⟩, y15.text, y15.names, y15.items⟩ : Json) + 3) y11 y12 0 y14 (⟨y15.kind, ⟨y15.num.mant, y15.num.exp⟩, y15.text, y15.names, y15.items⟩ : Json) (fun y22 y23 y24 y25 => bif y22 then (field_Check (⟨y25.kind, ⟨y25.num.mant, y25.num.exp⟩, y25.text, y25.names, y25.items⟩ : Json) y24 (fun y26 => k0 (y26 == (-1)))) else (k0 false))))))))))
noncomputable def law05_FieldMissing_af93 {R : Type} : law05_FieldMissing_af93_ty R := fun x1 k0 => law05_FieldMissing_af93_X law05_awake field_Make field_Check law05_FieldMissing_af93_6_0_L law05_FieldMissing_af93_13_0_L x1 k0
theorem law05_FieldMissing_af93_ok {R : Type} (law05_awake : law05_awake_ty R) (field_Make : field_Make_ty R) (field_Check : field_Check_ty R) (law05_FieldMissing_af93_6_0_L : law05_FieldMissing_af93_6_0_ty R) (law05_FieldMissing_af93_13_0_L : law05_FieldMissing_af93_13_0_ty R) (x1 : List Fld) (k : V → Heap → Option R) : funK (tt.mode [.fld]) (law05_FieldMissing_af93_E R law05_awake field_Make field_Check) (law05_FieldMissing_af93_T R law05_FieldMissing_af93_6_0_L law05_FieldMissing_af93_13_0_L) false Try.f6 (codeOf Try.f6) [.sl .fld x1 .no] [] k =
    law05_FieldMissing_af93_X law05_awake field_Make field_Check law05_FieldMissing_af93_6_0_L law05_FieldMissing_af93_13_0_L x1 (fun q0 => k (.bool q0) []) := by kernel_rfl
theorem law05_FieldMissing_af93_loops (R : Type) : ∀ a ∈ loopsOf (codeOf Try.f6), LoopOk (tt.mode [.fld]) (law05_FieldMissing_af93_E R law05_awake field_Make field_Check) (law05_FieldMissing_af93_T R law05_FieldMissing_af93_6_0_L law05_FieldMissing_af93_13_0_L) 0 a := by
  refine loops_ok 2 (by kernel_rfl) fun i hi => ?_
  match i, hi with
  | 0, _ => exact loopOk_some (by kernel_rfl) (law05_FieldMissing_af93_6_0_ok _ loopNo_ok)
  | 1, _ => exact loopOk_some (by kernel_rfl) (law05_FieldMissing_af93_13_0_ok _ loopNo_ok)
  | n + 2, hi => omega
theorem law05_FieldMissing_af93_S_ok (R : Type) (other : Yard.Spec R) (ho : Yard.Spec.Ok Try.prog 6 other) : Yard.Spec.Ok Try.prog 6 (specBy law05_FieldMissing_af93_p law05_FieldMissing_af93_q (law05_FieldMissing_af93_rr law05_FieldMissing_af93) other) :=
  specBy_ok ho (funK_sound (TT.mode [.fld]) mixed (law05_FieldMissing_af93_EOk R) (keep := false) rfl rfl rfl rfl 0 (law05_FieldMissing_af93_loops R)) fun (x : Pat.dens law05_FieldMissing_af93_p) (y : HPat.dens law05_FieldMissing_af93_q) k => law05_FieldMissing_af93_ok law05_awake field_Make field_Check law05_FieldMissing_af93_6_0_L law05_FieldMissing_af93_13_0_L x.1 k

end Go.Proofs.Ytcocpfgemdkkfaa

/-
  Functions of the program as pure Lean functions, and the ties; printed by wip/tools/emit.py.
-/
set_option maxRecDepth 100000
set_option linter.unusedVariables false
namespace Go.Proofs.Ytcocpfgemdkkfaa
open Go Go.Yard

/-! ### humpyard/field.Get$1 -/
abbrev field_Get_1_ty (R : Type) : Type := Json → (Json → Bool → Option R) → Option R
abbrev field_Get_1_p : List Pat := [.agg [.int .i64, .int .i64, .int .i64, .str, .sl .str, .sl .json]]
abbrev field_Get_1_q : List HPat := []
noncomputable def field_Get_1_rr {R : Type} (fn : field_Get_1_ty R) : Pat.dens field_Get_1_p → HPat.dens field_Get_1_q → (V → Heap → Option R) → Option R := fun x y k => fn (⟨x.1.1, ⟨x.1.2.1, x.1.2.2.1⟩, x.1.2.2.2.1, x.1.2.2.2.2.1, x.1.2.2.2.2.2.1⟩ : Json) (fun q0 q1 => k (.tuple [.agg [.int .i64 q0.kind, .int .i64 q0.num.mant, .int .i64 q0.num.exp, .str q0.text, .sl .str q0.names .no, .sl .json q0.items .no], .bool q1]) [])
noncomputable def field_Get_1_E (R : Type) (field_fresh : field_fresh_ty R) : Env R := fun i => match i with
  | 67 => some (true, (specBy field_fresh_p field_fresh_q (field_fresh_rr field_fresh) specNo))
  | _ => none
theorem field_Get_1_EOk (R : Type) : EOk Try.prog (field_Get_1_E R field_fresh) := by
  intro i b sp h
  unfold field_Get_1_E at h
  split at h
  · cases h; exact (field_fresh_S_ok R _ (specNo_ok _))
  · cases h

noncomputable def field_Get_1_T (R : Type) : Nat → Option (Hint × LSpec R) := fun i => match i with
  | _ => none

noncomputable def field_Get_1_X {R : Type} (field_fresh : field_fresh_ty R) (x1 : Json) (k0 : Json → Bool → Option R) : Option R :=
  field_fresh (⟨x1.kind, ⟨x1.num.mant, x1.num.exp⟩, x1.text, x1.names, x1.items⟩ : Json) (fun y2 => k0 (⟨y2.kind, ⟨y2.num.mant, y2.num.exp⟩, y2.text, y2.names, y2.items⟩ : Json) true)
noncomputable def field_Get_1 {R : Type} : field_Get_1_ty R := fun x1 k0 => field_Get_1_X field_fresh x1 k0
theorem field_Get_1_ok {R : Type} (field_fresh : field_fresh_ty R) (x1 : Json) (k : V → Heap → Option R) : funK tt (field_Get_1_E R field_fresh) (field_Get_1_T R) false Try.f71 (codeOf Try.f71) [.agg [.int .i64 x1.kind, .int .i64 x1.num.mant, .int .i64 x1.num.exp, .str x1.text, .sl .str x1.names .no, .sl .json x1.items .no]] [] k =
    field_Get_1_X field_fresh x1 (fun q0 q1 => k (.tuple [.agg [.int .i64 q0.kind, .int .i64 q0.num.mant, .int .i64 q0.num.exp, .str q0.text, .sl .str q0.names .no, .sl .json q0.items .no], .bool q1]) []) := by kernel_rfl
theorem field_Get_1_loops (R : Type) : ∀ a ∈ loopsOf (codeOf Try.f71), LoopOk tt (field_Get_1_E R field_fresh) (field_Get_1_T R) 0 a := by
  refine loops_ok 0 (by kernel_rfl) fun i hi => ?_
  omega
theorem field_Get_1_S_ok (R : Type) (other : Yard.Spec R) (ho : Yard.Spec.Ok Try.prog 71 other) : Yard.Spec.Ok Try.prog 71 (specBy field_Get_1_p field_Get_1_q (field_Get_1_rr field_Get_1) other) :=
  specBy_ok ho (funK_sound TT mixed (field_Get_1_EOk R) (keep := false) rfl rfl rfl rfl 0 (field_Get_1_loops R)) fun (x : Pat.dens field_Get_1_p) (y : HPat.dens field_Get_1_q) k => field_Get_1_ok field_fresh (⟨x.1.1, ⟨x.1.2.1, x.1.2.2.1⟩, x.1.2.2.2.1, x.1.2.2.2.2.1, x.1.2.2.2.2.2.1⟩ : Json) k

/-! ### humpyard/field.of[humpyard/api.Json] -/
abbrev field_of_Json_ebf4_ty (R : Type) : Type := Json → Str → (Json → Bool → Option R) → Option R
abbrev field_of_Json_ebf4_p : List Pat := [.agg [.int .i64, .int .i64, .int .i64, .str, .sl .str, .sl .json], .leaf (.str), .leaf (.fn 71)]
abbrev field_of_Json_ebf4_q : List HPat := []
noncomputable def field_of_Json_ebf4_rr {R : Type} (fn : field_of_Json_ebf4_ty R) : Pat.dens field_of_Json_ebf4_p → HPat.dens field_of_Json_ebf4_q → (V → Heap → Option R) → Option R := fun x y k => fn (⟨x.1.1, ⟨x.1.2.1, x.1.2.2.1⟩, x.1.2.2.2.1, x.1.2.2.2.2.1, x.1.2.2.2.2.2.1⟩ : Json) x.2.1 (fun q0 q1 => k (.tuple [.agg [.int .i64 q0.kind, .int .i64 q0.num.mant, .int .i64 q0.num.exp, .str q0.text, .sl .str q0.names .no, .sl .json q0.items .no], .bool q1]) [])
noncomputable def field_of_Json_ebf4_E (R : Type) (field_find : field_find_ty R) (field_Get_1 : field_Get_1_ty R) : Env R := fun i => match i with
  | 68 => some (true, (specBy field_find_p field_find_q (field_find_rr field_find) specNo))
  | 71 => some (true, (specBy field_Get_1_p field_Get_1_q (field_Get_1_rr field_Get_1) specNo))
  | _ => none
theorem field_of_Json_ebf4_EOk (R : Type) : EOk Try.prog (field_of_Json_ebf4_E R field_find field_Get_1) := by
  intro i b sp h
  unfold field_of_Json_ebf4_E at h
  split at h
  · cases h; exact (field_find_S_ok R _ (specNo_ok _))
  · cases h; exact (field_Get_1_S_ok R _ (specNo_ok _))
  · cases h

noncomputable def field_of_Json_ebf4_T (R : Type) : Nat → Option (Hint × LSpec R) := fun i => match i with
  | _ => none

noncomputable def field_of_Json_ebf4_X {R : Type} (field_find : field_find_ty R) (field_Get_1 : field_Get_1_ty R) (x1 : Json) (x2 : Str) (k0 : Json → Bool → Option R) : Option R :=
  field_find (⟨x1.kind, ⟨x1.num.mant, x1.num.exp⟩, x1.text, x1.names, x1.items⟩ : Json) x2 (fun y3 y4 => bif (!y4) then (k0 (⟨0, ⟨0, 0⟩, ([] : Str), ([] : List Str), ([] : List Json)⟩ : Json) false) else (field_Get_1 (⟨y3.kind, ⟨y3.num.mant, y3.num.exp⟩, y3.text, y3.names, y3.items⟩ : Json) (fun y5 y6 => bif y6 then (k0 (⟨y5.kind, ⟨y5.num.mant, y5.num.exp⟩, y5.text, y5.names, y5.items⟩ : Json) true) else (k0 (⟨0, ⟨0, 0⟩, ([] : Str), ([] : List Str), ([] : List Json)⟩ : Json) false))))
noncomputable def field_of_Json_ebf4 {R : Type} : field_of_Json_ebf4_ty R := fun x1 x2 k0 => field_of_Json_ebf4_X field_find field_Get_1 x1 x2 k0
theorem field_of_Json_ebf4_ok {R : Type} (field_find : field_find_ty R) (field_Get_1 : field_Get_1_ty R) (x1 : Json) (x2 : Str) (k : V → Heap → Option R) : funK tt (field_of_Json_ebf4_E R field_find field_Get_1) (field_of_Json_ebf4_T R) false Try.f70 (codeOf Try.f70) [.agg [.int .i64 x1.kind, .int .i64 x1.num.mant, .int .i64 x1.num.exp, .str x1.text, .sl .str x1.names .no, .sl .json x1.items .no], .str x2, .func 71 [] []] [] k =
    field_of_Json_ebf4_X field_find field_Get_1 x1 x2 (fun q0 q1 => k (.tuple [.agg [.int .i64 q0.kind, .int .i64 q0.num.mant, .int .i64 q0.num.exp, .str q0.text, .sl .str q0.names .no, .sl .json q0.items .no], .bool q1]) []) := by kernel_rfl
theorem field_of_Json_ebf4_loops (R : Type) : ∀ a ∈ loopsOf (codeOf Try.f70), LoopOk tt (field_of_Json_ebf4_E R field_find field_Get_1) (field_of_Json_ebf4_T R) 0 a := by
  refine loops_ok 0 (by kernel_rfl) fun i hi => ?_
  omega
theorem field_of_Json_ebf4_S_ok (R : Type) (other : Yard.Spec R) (ho : Yard.Spec.Ok Try.prog 70 other) : Yard.Spec.Ok Try.prog 70 (specBy field_of_Json_ebf4_p field_of_Json_ebf4_q (field_of_Json_ebf4_rr field_of_Json_ebf4) other) :=
  specBy_ok ho (funK_sound TT mixed (field_of_Json_ebf4_EOk R) (keep := false) rfl rfl rfl rfl 0 (field_of_Json_ebf4_loops R)) fun (x : Pat.dens field_of_Json_ebf4_p) (y : HPat.dens field_of_Json_ebf4_q) k => field_of_Json_ebf4_ok field_find field_Get_1 (⟨x.1.1, ⟨x.1.2.1, x.1.2.2.1⟩, x.1.2.2.2.1, x.1.2.2.2.2.1, x.1.2.2.2.2.2.1⟩ : Json) x.2.1 k

/-! ### humpyard/field.Get -/
abbrev field_Get_ty (R : Type) : Type := Json → Str → (Json → Bool → Option R) → Option R
abbrev field_Get_p : List Pat := [.agg [.int .i64, .int .i64, .int .i64, .str, .sl .str, .sl .json], .leaf (.str)]
abbrev field_Get_q : List HPat := []
noncomputable def field_Get_rr {R : Type} (fn : field_Get_ty R) : Pat.dens field_Get_p → HPat.dens field_Get_q → (V → Heap → Option R) → Option R := fun x y k => fn (⟨x.1.1, ⟨x.1.2.1, x.1.2.2.1⟩, x.1.2.2.2.1, x.1.2.2.2.2.1, x.1.2.2.2.2.2.1⟩ : Json) x.2.1 (fun q0 q1 => k (.tuple [.agg [.int .i64 q0.kind, .int .i64 q0.num.mant, .int .i64 q0.num.exp, .str q0.text, .sl .str q0.names .no, .sl .json q0.items .no], .bool q1]) [])
noncomputable def field_Get_E (R : Type) (field_of_Json_ebf4 : field_of_Json_ebf4_ty R) : Env R := fun i => match i with
  | 70 => some (true, (specBy field_of_Json_ebf4_p field_of_Json_ebf4_q (field_of_Json_ebf4_rr field_of_Json_ebf4) specNo))
  | _ => none
theorem field_Get_EOk (R : Type) : EOk Try.prog (field_Get_E R field_of_Json_ebf4) := by
  intro i b sp h
  unfold field_Get_E at h
  split at h
  · cases h; exact (field_of_Json_ebf4_S_ok R _ (specNo_ok _))
  · cases h

noncomputable def field_Get_T (R : Type) : Nat → Option (Hint × LSpec R) := fun i => match i with
  | _ => none

noncomputable def field_Get_X {R : Type} (field_of_Json_ebf4 : field_of_Json_ebf4_ty R) (x1 : Json) (x2 : Str) (k0 : Json → Bool → Option R) : Option R :=
  field_of_Json_ebf4 (⟨x1.kind, ⟨x1.num.mant, x1.num.exp⟩, x1.text, x1.names, x1.items⟩ : Json) x2 (fun y3 y4 => k0 (⟨y3.kind, ⟨y3.num.mant, y3.num.exp⟩, y3.text, y3.names, y3.items⟩ : Json) y4)
noncomputable def field_Get {R : Type} : field_Get_ty R := fun x1 x2 k0 => field_Get_X field_of_Json_ebf4 x1 x2 k0
theorem field_Get_ok {R : Type} (field_of_Json_ebf4 : field_of_Json_ebf4_ty R) (x1 : Json) (x2 : Str) (k : V → Heap → Option R) : funK tt (field_Get_E R field_of_Json_ebf4) (field_Get_T R) false Try.f26 (codeOf Try.f26) [.agg [.int .i64 x1.kind, .int .i64 x1.num.mant, .int .i64 x1.num.exp, .str x1.text, .sl .str x1.names .no, .sl .json x1.items .no], .str x2] [] k =
    field_Get_X field_of_Json_ebf4 x1 x2 (fun q0 q1 => k (.tuple [.agg [.int .i64 q0.kind, .int .i64 q0.num.mant, .int .i64 q0.num.exp, .str q0.text, .sl .str q0.names .no, .sl .json q0.items .no], .bool q1]) []) := by kernel_rfl
theorem field_Get_loops (R : Type) : ∀ a ∈ loopsOf (codeOf Try.f26), LoopOk tt (field_Get_E R field_of_Json_ebf4) (field_Get_T R) 0 a := by
  refine loops_ok 0 (by kernel_rfl) fun i hi => ?_
  omega
theorem field_Get_S_ok (R : Type) (other : Yard.Spec R) (ho : Yard.Spec.Ok Try.prog 26 other) : Yard.Spec.Ok Try.prog 26 (specBy field_Get_p field_Get_q (field_Get_rr field_Get) other) :=
  specBy_ok ho (funK_sound TT mixed (field_Get_EOk R) (keep := false) rfl rfl rfl rfl 0 (field_Get_loops R)) fun (x : Pat.dens field_Get_p) (y : HPat.dens field_Get_q) k => field_Get_ok field_of_Json_ebf4 (⟨x.1.1, ⟨x.1.2.1, x.1.2.2.1⟩, x.1.2.2.2.1, x.1.2.2.2.2.1, x.1.2.2.2.2.2.1⟩ : Json) x.2.1 k

/-! ### humpyard/humpyardref04.Same -/
abbrev ref04_Same_ty (R : Type) : Type := Json → Json → (Bool → Option R) → Option R
abbrev ref04_Same_p : List Pat := [.agg [.int .i64, .int .i64, .int .i64, .str, .sl .str, .sl .json], .agg [.int .i64, .int .i64, .int .i64, .str, .sl .str, .sl .json]]
abbrev ref04_Same_q : List HPat := []
noncomputable def ref04_Same_rr {R : Type} (fn : ref04_Same_ty R) : Pat.dens ref04_Same_p → HPat.dens ref04_Same_q → (V → Heap → Option R) → Option R := fun x y k => fn (⟨x.1.1, ⟨x.1.2.1, x.1.2.2.1⟩, x.1.2.2.2.1, x.1.2.2.2.2.1, x.1.2.2.2.2.2.1⟩ : Json) (⟨x.2.1.1, ⟨x.2.1.2.1, x.2.1.2.2.1⟩, x.2.1.2.2.2.1, x.2.1.2.2.2.2.1, x.2.1.2.2.2.2.2.1⟩ : Json) (fun q0 => k (.bool q0) [])
abbrev ref04_Same_4_0_ty (R : Type) : Type := Nat → Int → Json → Json → (Json → Json → Option R) → (Bool → Json → Json → Option R) → Option R
abbrev ref04_Same_9_0_ty (R : Type) : Type := Nat → Int → Json → Json → (Option R) → (Bool → Option R) → Option R
noncomputable def ref04_Same_E (R : Type) (hrec_ref04_Same : ref04_Same_ty R) : Env R := fun i => match i with
  | 27 => some (true, (specBy ref04_Same_p ref04_Same_q (ref04_Same_rr hrec_ref04_Same) specNo))
  | _ => none
theorem ref04_Same_EOk (R : Type) (hrec_ref04_Same : ref04_Same_ty R) (hyp_ref04_Same : Yard.Spec.Ok Try.prog 27 (specBy ref04_Same_p ref04_Same_q (ref04_Same_rr hrec_ref04_Same) specNo)) : EOk Try.prog (ref04_Same_E R hrec_ref04_Same) := by
  intro i b sp h
  unfold ref04_Same_E at h
  split at h
  · cases h; exact hyp_ref04_Same
  · cases h

noncomputable def ref04_Same_4_0_B {R : Type} (rec' : Int → Json → Json → Option R) (x4 : Int) (x5 : Json) (x6 : Json) (e0 : Json → Json → Option R) (e1 : Bool → Json → Json → Option R) : Option R :=
  bif (decide (x4 < (x5.names.length : Int))) then (chk (decide ((0 : Int) ≤ x4) && decide (x4 < x5.names.length)) (chk (decide ((0 : Int) ≤ x4) && decide (x4 < x6.names.length)) (bif (!((x5.names.getD x4.toNat (Ty.dflt .str)) == (x6.names.getD x4.toNat (Ty.dflt .str)))) then (e1 false (⟨x5.kind, ⟨x5.num.mant, x5.num.exp⟩, x5.text, x5.names, x5.items⟩ : Json) (⟨x6.kind, ⟨x6.num.mant, x6.num.exp⟩, x6.text, x6.names, x6.items⟩ : Json)) else (rec' (IntKind.i64.wrap (x4 + 1)) (⟨x5.kind, ⟨x5.num.mant, x5.num.exp⟩, x5.text, x5.names, x5.items⟩ : Json) (⟨x6.kind, ⟨x6.num.mant, x6.num.exp⟩, x6.text, x6.names, x6.items⟩ : Json))))) else (e0 (⟨x5.kind, ⟨x5.num.mant, x5.num.exp⟩, x5.text, x5.names, x5.items⟩ : Json) (⟨x6.kind, ⟨x6.num.mant, x6.num.exp⟩, x6.text, x6.names, x6.items⟩ : Json))
noncomputable def ref04_Same_4_0_L {R : Type} : ref04_Same_4_0_ty R
  | 0, _, _, _, _, _ => none
  | n + 1, x0', x1', x2', e0, e1 => ref04_Same_4_0_B (fun x0' x1' x2' => ref04_Same_4_0_L n x0' x1' x2' e0 e1) x0' x1' x2' e0 e1
noncomputable def ref04_Same_4_0_h : Hint := { live := [2, 3, 5], own := [], rows := [], cells := [], drop := [], out := [2, 3, 4] }
abbrev ref04_Same_4_0_D : Type := Int × Json × Json
noncomputable def ref04_Same_4_0_enc : ref04_Same_4_0_D → St := fun d => ⟨[.undef, .undef, .ptr 0 0, .ptr 1 0, .undef, .int .i64 d.1, .undef, .undef, .undef, .undef, .undef, .undef, .undef, .undef, .undef, .undef, .undef, .undef, .undef, .undef, .undef, .undef, .undef, .undef, .undef, .undef, .undef, .undef, .undef, .undef, .undef, .undef, .undef, .undef, .undef, .undef, .undef, .undef, .undef, .undef, .undef, .undef, .undef, .undef, .undef, .undef, .undef, .undef, .undef, .undef, .undef, .undef, .undef, .undef, .undef, .undef, .undef, .undef, .undef, .undef, .undef, .undef, .undef, .undef, .undef, .undef, .undef, .undef, .undef, .undef, .undef, .undef, .undef, .undef, .undef, .undef, .undef, .undef, .undef, .undef, .undef, .undef, .undef], [.cells [.int .i64 d.2.1.kind, .int .i64 d.2.1.num.mant, .int .i64 d.2.1.num.exp, .str d.2.1.text, .sl .str d.2.1.names .no, .sl .json d.2.1.items .no], .cells [.int .i64 d.2.2.kind, .int .i64 d.2.2.num.mant, .int .i64 d.2.2.num.exp, .str d.2.2.text, .sl .str d.2.2.names .no, .sl .json d.2.2.items .no]]⟩
noncomputable def ref04_Same_4_0_x0 {R : Type} (K : Ex → St → Option R) (q0 : Json) (q1 : Json) : Option R := K (.exit 0) ⟨[.undef, .undef, .ptr 0 0, .ptr 1 0, .undef, .undef, .undef, .undef, .undef, .undef, .undef, .undef, .undef, .undef, .undef, .undef, .undef, .undef, .undef, .undef, .undef, .undef, .undef, .undef, .undef, .undef, .undef, .undef, .undef, .undef, .undef, .undef, .undef, .undef, .undef, .undef, .undef, .undef, .undef, .undef, .undef, .undef, .undef, .undef, .undef, .undef, .undef, .undef, .undef, .undef, .undef, .undef, .undef, .undef, .undef, .undef, .undef, .undef, .undef, .undef, .undef, .undef, .undef, .undef, .undef, .undef, .undef, .undef, .undef, .undef, .undef, .undef, .undef, .undef, .undef, .undef, .undef, .undef, .undef, .undef, .undef, .undef, .undef], [.cells [.int .i64 q0.kind, .int .i64 q0.num.mant, .int .i64 q0.num.exp, .str q0.text, .sl .str q0.names .no, .sl .json q0.items .no], .cells [.int .i64 q1.kind, .int .i64 q1.num.mant, .int .i64 q1.num.exp, .str q1.text, .sl .str q1.names .no, .sl .json q1.items .no]]⟩
noncomputable def ref04_Same_4_0_x1 {R : Type} (K : Ex → St → Option R) (q0 : Bool) (q1 : Json) (q2 : Json) : Option R := K (.ret) ⟨[.undef, .undef, .ptr 0 0, .ptr 1 0, .bool q0, .undef, .undef, .undef, .undef, .undef, .undef, .undef, .undef, .undef, .undef, .undef, .undef, .undef, .undef, .undef, .undef, .undef, .undef, .undef, .undef, .undef, .undef, .undef, .undef, .undef, .undef, .undef, .undef, .undef, .undef, .undef, .undef, .undef, .undef, .undef, .undef, .undef, .undef, .undef, .undef, .undef, .undef, .undef, .undef, .undef, .undef, .undef, .undef, .undef, .undef, .undef, .undef, .undef, .undef, .undef, .undef, .undef, .undef, .undef, .undef, .undef, .undef, .undef, .undef, .undef, .undef, .undef, .undef, .undef, .undef, .undef, .undef, .undef, .undef, .undef, .undef, .undef, .undef], [.cells [.int .i64 q1.kind, .int .i64 q1.num.mant, .int .i64 q1.num.exp, .str q1.text, .sl .str q1.names .no, .sl .json q1.items .no], .cells [.int .i64 q2.kind, .int .i64 q2.num.mant, .int .i64 q2.num.exp, .str q2.text, .sl .str q2.names .no, .sl .json q2.items .no]]⟩
noncomputable def ref04_Same_4_0_s {R : Type} (K : Ex → St → Option R) (rc : ref04_Same_4_0_D → Option R) (d : ref04_Same_4_0_D) : Option R := ref04_Same_4_0_B (fun z0 z1 z2 => rc (z0, z1, z2)) d.1 d.2.1 d.2.2 (ref04_Same_4_0_x0 K) (ref04_Same_4_0_x1 K)
noncomputable def ref04_Same_4_0_A {R : Type} (K : Ex → St → Option R) (n : Nat) (d : ref04_Same_4_0_D) : Option R := ref04_Same_4_0_L n d.1 d.2.1 d.2.2 (ref04_Same_4_0_x0 K) (ref04_Same_4_0_x1 K)
abbrev ref04_Same_4_0_p : List Pat := [.leaf (.undef), .leaf (.undef), .leaf (.ptr 0 0), .leaf (.ptr 1 0), .leaf (.undef), .leaf (.int .i64), .leaf (.undef), .leaf (.undef), .leaf (.undef), .leaf (.undef), .leaf (.undef), .leaf (.undef), .leaf (.undef), .leaf (.undef), .leaf (.undef), .leaf (.undef), .leaf (.undef), .leaf (.undef), .leaf (.undef), .leaf (.undef), .leaf (.undef), .leaf (.undef), .leaf (.undef), .leaf (.undef), .leaf (.undef), .leaf (.undef), .leaf (.undef), .leaf (.undef), .leaf (.undef), .leaf (.undef), .leaf (.undef), .leaf (.undef), .leaf (.undef), .leaf (.undef), .leaf (.undef), .leaf (.undef), .leaf (.undef), .leaf (.undef), .leaf (.undef), .leaf (.undef), .leaf (.undef), .leaf (.undef), .leaf (.undef), .leaf (.undef), .leaf (.undef), .leaf (.undef), .leaf (.undef), .leaf (.undef), .leaf (.undef), .leaf (.undef), .leaf (.undef), .leaf (.undef), .leaf (.undef), .leaf (.undef), .leaf (.undef), .leaf (.undef), .leaf (.undef), .leaf (.undef), .leaf (.undef), .leaf (.undef), .leaf (.undef), .leaf (.undef), .leaf (.undef), .leaf (.undef), .leaf (.undef), .leaf (.undef), .leaf (.undef), .leaf (.undef), .leaf (.undef), .leaf (.undef), .leaf (.undef), .leaf (.undef), .leaf (.undef), .leaf (.undef), .leaf (.undef), .leaf (.undef), .leaf (.undef), .leaf (.undef), .leaf (.undef), .leaf (.undef), .leaf (.undef), .leaf (.undef), .leaf (.undef)]
abbrev ref04_Same_4_0_q : List HPat := [.cells [.int .i64, .int .i64, .int .i64, .str, .sl .str, .sl .json], .cells [.int .i64, .int .i64, .int .i64, .str, .sl .str, .sl .json]]
noncomputable def ref04_Same_4_0_f (x : Pat.dens ref04_Same_4_0_p) (y : HPat.dens ref04_Same_4_0_q) : Nat := (Int.natAbs x.2.2.2.2.2.1 + Json.fu (⟨y.1.1, ⟨y.1.2.1, y.1.2.2.1⟩, y.1.2.2.2.1, y.1.2.2.2.2.1, y.1.2.2.2.2.2.1⟩ : Json) + Json.fu (⟨y.2.1.1, ⟨y.2.1.2.1, y.2.1.2.2.1⟩, y.2.1.2.2.2.1, y.2.1.2.2.2.2.1, y.2.1.2.2.2.2.2.1⟩ : Json) + 3)
noncomputable def ref04_Same_4_0_d (x : Pat.dens ref04_Same_4_0_p) (y : HPat.dens ref04_Same_4_0_q) : ref04_Same_4_0_D := (x.2.2.2.2.2.1, (⟨y.1.1, ⟨y.1.2.1, y.1.2.2.1⟩, y.1.2.2.2.1, y.1.2.2.2.2.1, y.1.2.2.2.2.2.1⟩ : Json), (⟨y.2.1.1, ⟨y.2.1.2.1, y.2.1.2.2.1⟩, y.2.1.2.2.2.1, y.2.1.2.2.2.2.1, y.2.1.2.2.2.2.2.1⟩ : Json))
noncomputable def ref04_Same_4_0_rr {R : Type} (L : ref04_Same_4_0_ty R) : Pat.dens ref04_Same_4_0_p → HPat.dens ref04_Same_4_0_q → (Ex → St → Option R) → Option R := fun x y K => L (ref04_Same_4_0_f x y) x.2.2.2.2.2.1 (⟨y.1.1, ⟨y.1.2.1, y.1.2.2.1⟩, y.1.2.2.2.1, y.1.2.2.2.2.1, y.1.2.2.2.2.2.1⟩ : Json) (⟨y.2.1.1, ⟨y.2.1.2.1, y.2.1.2.2.1⟩, y.2.1.2.2.2.1, y.2.1.2.2.2.2.1, y.2.1.2.2.2.2.2.1⟩ : Json) (ref04_Same_4_0_x0 K) (ref04_Same_4_0_x1 K)
noncomputable def ref04_Same_9_0_B {R : Type} (hrec_ref04_Same : ref04_Same_ty R) (rec' : Int → Json → Json → Option R) (x12 : Int) (x13 : Json) (x14 : Json) (e0 : Option R) (e1 : Bool → Option R) : Option R :=
  bif (decide (x12 < (x13.items.length : Int))) then (chk (decide ((0 : Int) ≤ x12) && decide (x12 < x13.items.length)) (chk (decide ((0 : Int) ≤ x12) && decide (x12 < x14.items.length)) (hrec_ref04_Same (⟨(x13.items.getD x12.toNat (Ty.dflt .json)).kind, ⟨(x13.items.getD x12.toNat (Ty.dflt .json)).num.mant, (x13.items.getD x12.toNat (Ty.dflt .json)).num.exp⟩, (x13.items.getD x12.toNat (Ty.dflt .json)).text, (x13.items.getD x12.toNat (Ty.dflt .json)).names, (x13.items.getD x12.toNat (Ty.dflt .json)).items⟩ : Json) (⟨(x14.items.getD x12.toNat (Ty.dflt .json)).kind, ⟨(x14.items.getD x12.toNat (Ty.dflt .json)).num.mant, (x14.items.getD x12.toNat (Ty.dflt .json)).num.exp⟩, (x14.items.getD x12.toNat (Ty.dflt .json)).text, (x14.items.getD x12.toNat (Ty.dflt .json)).names, (x14.items.getD x12.toNat (Ty.dflt .json)).items⟩ : Json) (fun y15 => bif (!y15) then (e1 false) else (rec' (IntKind.i64.wrap (x12 + 1)) (⟨x13.kind, ⟨x13.num.mant, x13.num.exp⟩, x13.text, x13.names, x13.items⟩ : Json) (⟨x14.kind, ⟨x14.num.mant, x14.num.exp⟩, x14.text, x14.names, x14.items⟩ : Json)))))) else (e0)
noncomputable def ref04_Same_9_0_L {R : Type} (hrec_ref04_Same : ref04_Same_ty R) : ref04_Same_9_0_ty R
  | 0, _, _, _, _, _ => none
  | n + 1, x0', x1', x2', e0, e1 => ref04_Same_9_0_B hrec_ref04_Same (fun x0' x1' x2' => ref04_Same_9_0_L hrec_ref04_Same n x0' x1' x2' e0 e1) x0' x1' x2' e0 e1
noncomputable def ref04_Same_9_0_h : Hint := { live := [2, 3, 6], own := [], rows := [], cells := [], drop := [], out := [4] }
abbrev ref04_Same_9_0_D : Type := Int × Json × Json
noncomputable def ref04_Same_9_0_enc : ref04_Same_9_0_D → St := fun d => ⟨[.undef, .undef, .ptr 0 0, .ptr 1 0, .undef, .undef, .int .i64 d.1, .undef, .undef, .undef, .undef, .undef, .undef, .undef, .undef, .undef, .undef, .undef, .undef, .undef, .undef, .undef, .undef, .undef, .undef, .undef, .undef, .undef, .undef, .undef, .undef, .undef, .undef, .undef, .undef, .undef, .undef, .undef, .undef, .undef, .undef, .undef, .undef, .undef, .undef, .undef, .undef, .undef, .undef, .undef, .undef, .undef, .undef, .undef, .undef, .undef, .undef, .undef, .undef, .undef, .undef, .undef, .undef, .undef, .undef, .undef, .undef, .undef, .undef, .undef, .undef, .undef, .undef, .undef, .undef, .undef, .undef, .undef, .undef, .undef, .undef, .undef, .undef], [.cells [.int .i64 d.2.1.kind, .int .i64 d.2.1.num.mant, .int .i64 d.2.1.num.exp, .str d.2.1.text, .sl .str d.2.1.names .no, .sl .json d.2.1.items .no], .cells [.int .i64 d.2.2.kind, .int .i64 d.2.2.num.mant, .int .i64 d.2.2.num.exp, .str d.2.2.text, .sl .str d.2.2.names .no, .sl .json d.2.2.items .no]]⟩
noncomputable def ref04_Same_9_0_x0 {R : Type} (K : Ex → St → Option R) : Option R := K (.exit 2) ⟨[.undef, .undef, .undef, .undef, .undef, .undef, .undef, .undef, .undef, .undef, .undef, .undef, .undef, .undef, .undef, .undef, .undef, .undef, .undef, .undef, .undef, .undef, .undef, .undef, .undef, .undef, .undef, .undef, .undef, .undef, .undef, .undef, .undef, .undef, .undef, .undef, .undef, .undef, .undef, .undef, .undef, .undef, .undef, .undef, .undef, .undef, .undef, .undef, .undef, .undef, .undef, .undef, .undef, .undef, .undef, .undef, .undef, .undef, .undef, .undef, .undef, .undef, .undef, .undef, .undef, .undef, .undef, .undef, .undef, .undef, .undef, .undef, .undef, .undef, .undef, .undef, .undef, .undef, .undef, .undef, .undef, .undef, .undef], []⟩
noncomputable def ref04_Same_9_0_x1 {R : Type} (K : Ex → St → Option R) (q0 : Bool) : Option R := K (.ret) ⟨[.undef, .undef, .undef, .undef, .bool q0, .undef, .undef, .undef, .undef, .undef, .undef, .undef, .undef, .undef, .undef, .undef, .undef, .undef, .undef, .undef, .undef, .undef, .undef, .undef, .undef, .undef, .undef, .undef, .undef, .undef, .undef, .undef, .undef, .undef, .undef, .undef, .undef, .undef, .undef, .undef, .undef, .undef, .undef, .undef, .undef, .undef, .undef, .undef, .undef, .undef, .undef, .undef, .undef, .undef, .undef, .undef, .undef, .undef, .undef, .undef, .undef, .undef, .undef, .undef, .undef, .undef, .undef, .undef, .undef, .undef, .undef, .undef, .undef, .undef, .undef, .undef, .undef, .undef, .undef, .undef, .undef, .undef, .undef], []⟩
noncomputable def ref04_Same_9_0_s {R : Type} (hrec_ref04_Same : ref04_Same_ty R) (K : Ex → St → Option R) (rc : ref04_Same_9_0_D → Option R) (d : ref04_Same_9_0_D) : Option R := ref04_Same_9_0_B hrec_ref04_Same (fun z0 z1 z2 => rc (z0, z1, z2)) d.1 d.2.1 d.2.2 (ref04_Same_9_0_x0 K) (ref04_Same_9_0_x1 K)
noncomputable def ref04_Same_9_0_A {R : Type} (hrec_ref04_Same : ref04_Same_ty R) (K : Ex → St → Option R) (n : Nat) (d : ref04_Same_9_0_D) : Option R := ref04_Same_9_0_L hrec_ref04_Same n d.1 d.2.1 d.2.2 (ref04_Same_9_0_x0 K) (ref04_Same_9_0_x1 K)
abbrev ref04_Same_9_0_p : List Pat := [.leaf (.undef), .leaf (.undef), .leaf (.ptr 0 0), .leaf (.ptr 1 0), .leaf (.undef), .leaf (.undef), .leaf (.int .i64), .leaf (.undef), .leaf (.undef), .leaf (.undef), .leaf (.undef), .leaf (.undef), .leaf (.undef), .leaf (.undef), .leaf (.undef), .leaf (.undef), .leaf (.undef), .leaf (.undef), .leaf (.undef), .leaf (.undef), .leaf (.undef), .leaf (.undef), .leaf (.undef), .leaf (.undef), .leaf (.undef), .leaf (.undef), .leaf (.undef), .leaf (.undef), .leaf (.undef), .leaf (.undef), .leaf (.undef), .leaf (.undef), .leaf (.undef), .leaf (.undef), .leaf (.undef), .leaf (.undef), .leaf (.undef), .leaf (.undef), .leaf (.undef), .leaf (.undef), .leaf (.undef), .leaf (.undef), .leaf (.undef), .leaf (.undef), .leaf (.undef), .leaf (.undef), .leaf (.undef), .leaf (.undef), .leaf (.undef), .leaf (.undef), .leaf (.undef), .leaf (.undef), .leaf (.undef), .leaf (.undef), .leaf (.undef), .leaf (.undef), .leaf (.undef), .leaf (.undef), .leaf (.undef), .leaf (.undef), .leaf (.undef), .leaf (.undef), .leaf (.undef), .leaf (.undef), .leaf (.undef), .leaf (.undef), .leaf (.undef), .leaf (.undef), .leaf (.undef), .leaf (.undef), .leaf (.undef), .leaf (.undef), .leaf (.undef), .leaf (.undef), .leaf (.undef), .leaf (.undef), .leaf (.undef), .leaf (.undef), .leaf (.undef), .leaf (.undef), .leaf (.undef), .leaf (.undef), .leaf (.undef)]
abbrev ref04_Same_9_0_q : List HPat := [.cells [.int .i64, .int .i64, .int .i64, .str, .sl .str, .sl .json], .cells [.int .i64, .int .i64, .int .i64, .str, .sl .str, .sl .json]]
noncomputable def ref04_Same_9_0_f (x : Pat.dens ref04_Same_9_0_p) (y : HPat.dens ref04_Same_9_0_q) : Nat := (Int.natAbs x.2.2.2.2.2.2.1 + Json.fu (⟨y.1.1, ⟨y.1.2.1, y.1.2.2.1⟩, y.1.2.2.2.1, y.1.2.2.2.2.1, y.1.2.2.2.2.2.1⟩ : Json) + Json.fu (⟨y.2.1.1, ⟨y.2.1.2.1, y.2.1.2.2.1⟩, y.2.1.2.2.2.1, y.2.1.2.2.2.2.1, y.2.1.2.2.2.2.2.1⟩ : Json) + 3)
noncomputable def ref04_Same_9_0_d (x : Pat.dens ref04_Same_9_0_p) (y : HPat.dens ref04_Same_9_0_q) : ref04_Same_9_0_D := (x.2.2.2.2.2.2.1, (⟨y.1.1, ⟨y.1.2.1, y.1.2.2.1⟩, y.1.2.2.2.1, y.1.2.2.2.2.1, y.1.2.2.2.2.2.1⟩ : Json), (⟨y.2.1.1, ⟨y.2.1.2.1, y.2.1.2.2.1⟩, y.2.1.2.2.2.1, y.2.1.2.2.2.2.1, y.2.1.2.2.2.2.2.1⟩ : Json))
noncomputable def ref04_Same_9_0_rr {R : Type} (L : ref04_Same_9_0_ty R) : Pat.dens ref04_Same_9_0_p → HPat.dens ref04_Same_9_0_q → (Ex → St → Option R) → Option R := fun x y K => L (ref04_Same_9_0_f x y) x.2.2.2.2.2.2.1 (⟨y.1.1, ⟨y.1.2.1, y.1.2.2.1⟩, y.1.2.2.2.1, y.1.2.2.2.2.1, y.1.2.2.2.2.2.1⟩ : Json) (⟨y.2.1.1, ⟨y.2.1.2.1, y.2.1.2.2.1⟩, y.2.1.2.2.2.1, y.2.1.2.2.2.2.1, y.2.1.2.2.2.2.2.1⟩ : Json) (ref04_Same_9_0_x0 K) (ref04_Same_9_0_x1 K)
noncomputable def ref04_Same_T (R : Type) (ref04_Same_4_0_L : ref04_Same_4_0_ty R) (ref04_Same_9_0_L : ref04_Same_9_0_ty R) : Nat → Option (Hint × LSpec R) := fun i => match i with
  | 4 => some (ref04_Same_4_0_h, (loopBy ref04_Same_4_0_p ref04_Same_4_0_q (ref04_Same_4_0_rr ref04_Same_4_0_L) loopNo))
  | 9 => some (ref04_Same_9_0_h, (loopBy ref04_Same_9_0_p ref04_Same_9_0_q (ref04_Same_9_0_rr ref04_Same_9_0_L) loopNo))
  | _ => none

theorem ref04_Same_4_0_B_ok {R : Type} (hrec_ref04_Same : ref04_Same_ty R) (ref04_Same_4_0_L : ref04_Same_4_0_ty R) (ref04_Same_9_0_L : ref04_Same_9_0_ty R) (K : Ex → St → Option R) (rc : St → Option R) (d : ref04_Same_4_0_D) : roundOf tt (ref04_Same_E R hrec_ref04_Same) (ref04_Same_T R ref04_Same_4_0_L ref04_Same_9_0_L) 0 ((loopsOf (codeOf Try.f27)).getD 0 .skip) ref04_Same_4_0_h (ref04_Same_4_0_enc d) rc K = ref04_Same_4_0_s K (fun d => rc (ref04_Same_4_0_enc d)) d := by kernel_rfl
theorem ref04_Same_4_0_A_succ {R : Type} (K : Ex → St → Option R) (n : Nat) (d : ref04_Same_4_0_D) : ref04_Same_4_0_A K (n + 1) d = ref04_Same_4_0_s K (ref04_Same_4_0_A K n) d := by kernel_rfl
theorem ref04_Same_4_0_A_zero {R : Type} (K : Ex → St → Option R) (d : ref04_Same_4_0_D) : ref04_Same_4_0_A K 0 d = none := by kernel_rfl
theorem ref04_Same_4_0_e_ok (x : Pat.dens ref04_Same_4_0_p) (y : HPat.dens ref04_Same_4_0_q) : (⟨Pat.encL ref04_Same_4_0_p x, HPat.encL ref04_Same_4_0_q y⟩ : St) = ref04_Same_4_0_enc (ref04_Same_4_0_d x y) := by kernel_rfl
theorem ref04_Same_4_0_r_ok {R : Type} (x : Pat.dens ref04_Same_4_0_p) (y : HPat.dens ref04_Same_4_0_q) (K : Ex → St → Option R) : ref04_Same_4_0_rr (ref04_Same_4_0_L) x y K = ref04_Same_4_0_A K (ref04_Same_4_0_f x y) (ref04_Same_4_0_d x y) := by kernel_rfl
theorem ref04_Same_4_0_ok {R : Type} (hrec_ref04_Same : ref04_Same_ty R) (other : LSpec R) (ho : LsOk tt (ref04_Same_E R hrec_ref04_Same) (ref04_Same_T R ref04_Same_4_0_L (ref04_Same_9_0_L hrec_ref04_Same)) 0 ((loopsOf (codeOf Try.f27)).getD 0 .skip) ref04_Same_4_0_h other) : LsOk tt (ref04_Same_E R hrec_ref04_Same) (ref04_Same_T R ref04_Same_4_0_L (ref04_Same_9_0_L hrec_ref04_Same)) 0 ((loopsOf (codeOf Try.f27)).getD 0 .skip) ref04_Same_4_0_h (loopBy ref04_Same_4_0_p ref04_Same_4_0_q (ref04_Same_4_0_rr (ref04_Same_4_0_L)) other) :=
  loopBy_tie (A := ref04_Same_4_0_A) ho (loop_tie ref04_Same_4_0_enc (ref04_Same_4_0_s) (ref04_Same_4_0_A) (ref04_Same_4_0_A_zero) (ref04_Same_4_0_B_ok hrec_ref04_Same ref04_Same_4_0_L (ref04_Same_9_0_L hrec_ref04_Same)) (ref04_Same_4_0_A_succ)) ref04_Same_4_0_f ref04_Same_4_0_d ref04_Same_4_0_e_ok (ref04_Same_4_0_r_ok)

theorem ref04_Same_9_0_B_ok {R : Type} (hrec_ref04_Same : ref04_Same_ty R) (ref04_Same_4_0_L : ref04_Same_4_0_ty R) (ref04_Same_9_0_L : ref04_Same_9_0_ty R) (K : Ex → St → Option R) (rc : St → Option R) (d : ref04_Same_9_0_D) : roundOf tt (ref04_Same_E R hrec_ref04_Same) (ref04_Same_T R ref04_Same_4_0_L ref04_Same_9_0_L) 0 ((loopsOf (codeOf Try.f27)).getD 1 .skip) ref04_Same_9_0_h (ref04_Same_9_0_enc d) rc K = ref04_Same_9_0_s hrec_ref04_Same K (fun d => rc (ref04_Same_9_0_enc d)) d := by kernel_rfl
theorem ref04_Same_9_0_A_succ {R : Type} (hrec_ref04_Same : ref04_Same_ty R) (K : Ex → St → Option R) (n : Nat) (d : ref04_Same_9_0_D) : ref04_Same_9_0_A hrec_ref04_Same K (n + 1) d = ref04_Same_9_0_s hrec_ref04_Same K (ref04_Same_9_0_A hrec_ref04_Same K n) d := by kernel_rfl
theorem ref04_Same_9_0_A_zero {R : Type} (hrec_ref04_Same : ref04_Same_ty R) (K : Ex → St → Option R) (d : ref04_Same_9_0_D) : ref04_Same_9_0_A hrec_ref04_Same K 0 d = none := by kernel_rfl
theorem ref04_Same_9_0_e_ok (x : Pat.dens ref04_Same_9_0_p) (y : HPat.dens ref04_Same_9_0_q) : (⟨Pat.encL ref04_Same_9_0_p x, HPat.encL ref04_Same_9_0_q y⟩ : St) = ref04_Same_9_0_enc (ref04_Same_9_0_d x y) := by kernel_rfl
theorem ref04_Same_9_0_r_ok {R : Type} (hrec_ref04_Same : ref04_Same_ty R) (x : Pat.dens ref04_Same_9_0_p) (y : HPat.dens ref04_Same_9_0_q) (K : Ex → St → Option R) : ref04_Same_9_0_rr (ref04_Same_9_0_L hrec_ref04_Same) x y K = ref04_Same_9_0_A hrec_ref04_Same K (ref04_Same_9_0_f x y) (ref04_Same_9_0_d x y) := by kernel_rfl
theorem ref04_Same_9_0_ok {R : Type} (hrec_ref04_Same : ref04_Same_ty R) (other : LSpec R) (ho : LsOk tt (ref04_Same_E R hrec_ref04_Same) (ref04_Same_T R ref04_Same_4_0_L (ref04_Same_9_0_L hrec_ref04_Same)) 0 ((loopsOf (codeOf Try.f27)).getD 1 .skip) ref04_Same_9_0_h other) : LsOk tt (ref04_Same_E R hrec_ref04_Same) (ref04_Same_T R ref04_Same_4_0_L (ref04_Same_9_0_L hrec_ref04_Same)) 0 ((loopsOf (codeOf Try.f27)).getD 1 .skip) ref04_Same_9_0_h (loopBy ref04_Same_9_0_p ref04_Same_9_0_q (ref04_Same_9_0_rr (ref04_Same_9_0_L hrec_ref04_Same)) other) :=
  loopBy_tie (A := ref04_Same_9_0_A hrec_ref04_Same) ho (loop_tie ref04_Same_9_0_enc (ref04_Same_9_0_s hrec_ref04_Same) (ref04_Same_9_0_A hrec_ref04_Same) (ref04_Same_9_0_A_zero hrec_ref04_Same) (ref04_Same_9_0_B_ok hrec_ref04_Same ref04_Same_4_0_L (ref04_Same_9_0_L hrec_ref04_Same)) (ref04_Same_9_0_A_succ hrec_ref04_Same)) ref04_Same_9_0_f ref04_Same_9_0_d ref04_Same_9_0_e_ok (ref04_Same_9_0_r_ok hrec_ref04_Same)

noncomputable def ref04_Same_X {R : Type} (ref04_Same_4_0_L : ref04_Same_4_0_ty R) (ref04_Same_9_0_L : ref04_Same_9_0_ty R) (x1 : Json) (x2 : Json) (k0 : Bool → Option R) : Option R :=
  bif (x1.kind != x2.kind) then (k0 false) else (bif (!(x1.num.mant == x2.num.mant && (x1.num.exp == x2.num.exp && true))) then (k0 false) else (bif (!(x1.text == x2.text)) then (k0 false) else (bif ((x1.names.length : Int) != (x2.names.length : Int)) then (k0 false) else (bif ((x1.items.length : Int) != (x2.items.length : Int)) then (k0 false) else (ref04_Same_4_0_L (Int.natAbs 0 + Json.fu (⟨x1.kind, ⟨x1.num.mant, x1.num.exp⟩, x1.text, x1.names, x1.items⟩ : Json) + Json.fu (⟨x2.kind, ⟨x2.num.mant, x2.num.exp⟩, x2.text, x2.names, x2.items⟩ : Json) + 3) 0 (⟨x1.kind, ⟨x1.num.mant, x1.num.exp⟩, x1.text, x1.names, x1.items⟩ : Json) (⟨x2.kind, ⟨x2.num.mant, x2.num.exp⟩, x2.text, x2.names, x2.items⟩ : Json) (fun y7 y8 => ref04_Same_9_0_L (Int.natAbs 0 + Json.fu (⟨y7.kind, ⟨y7.num.mant, y7.num.exp⟩, y7.text, y7.names, y7.items⟩ : Json) + Json.fu (⟨y8.kind, ⟨y8.num.mant, y8.num.exp⟩, y8.text, y8.names, y8.items⟩ : Json) + 3) 0 (⟨y7.kind, ⟨y7.num.mant, y7.num.exp⟩, y7.text, y7.names, y7.items⟩ : Json) (⟨y8.kind, ⟨y8.num.mant, y8.num.exp⟩, y8.text, y8.names, y8.items⟩ : Json) (k0 true) (fun y16 => k0 y16)) (fun y9 y10 y11 => k0 y9))))))
noncomputable def ref04_Same_B {R : Type} (hrec_ref04_Same : ref04_Same_ty R) : ref04_Same_ty R := fun x1 x2 k0 => ref04_Same_X ref04_Same_4_0_L (ref04_Same_9_0_L hrec_ref04_Same) x1 x2 k0
theorem ref04_Same_ok {R : Type} (hrec_ref04_Same : ref04_Same_ty R) (ref04_Same_4_0_L : ref04_Same_4_0_ty R) (ref04_Same_9_0_L : ref04_Same_9_0_ty R) (x1 : Json) (x2 : Json) (k : V → Heap → Option R) : funK tt (ref04_Same_E R hrec_ref04_Same) (ref04_Same_T R ref04_Same_4_0_L ref04_Same_9_0_L) false Try.f27 (codeOf Try.f27) [.agg [.int .i64 x1.kind, .int .i64 x1.num.mant, .int .i64 x1.num.exp, .str x1.text, .sl .str x1.names .no, .sl .json x1.items .no], .agg [.int .i64 x2.kind, .int .i64 x2.num.mant, .int .i64 x2.num.exp, .str x2.text, .sl .str x2.names .no, .sl .json x2.items .no]] [] k =
    ref04_Same_X ref04_Same_4_0_L ref04_Same_9_0_L x1 x2 (fun q0 => k (.bool q0) []) := by kernel_rfl
theorem ref04_Same_loops (R : Type) (hrec_ref04_Same : ref04_Same_ty R) : ∀ a ∈ loopsOf (codeOf Try.f27), LoopOk tt (ref04_Same_E R hrec_ref04_Same) (ref04_Same_T R ref04_Same_4_0_L (ref04_Same_9_0_L hrec_ref04_Same)) 0 a := by
  refine loops_ok 2 (by kernel_rfl) fun i hi => ?_
  match i, hi with
  | 0, _ => exact loopOk_some (by kernel_rfl) (ref04_Same_4_0_ok hrec_ref04_Same _ loopNo_ok)
  | 1, _ => exact loopOk_some (by kernel_rfl) (ref04_Same_9_0_ok hrec_ref04_Same _ loopNo_ok)
  | n + 2, hi => omega
theorem ref04_Same_S_okB (R : Type) (hrec_ref04_Same : ref04_Same_ty R) (hyp_ref04_Same : Yard.Spec.Ok Try.prog 27 (specBy ref04_Same_p ref04_Same_q (ref04_Same_rr hrec_ref04_Same) specNo)) (other : Yard.Spec R) (ho : Yard.Spec.Ok Try.prog 27 other) : Yard.Spec.Ok Try.prog 27 (specBy ref04_Same_p ref04_Same_q (ref04_Same_rr (ref04_Same_B hrec_ref04_Same)) other) :=
  specBy_ok ho (funK_sound TT mixed (ref04_Same_EOk R hrec_ref04_Same hyp_ref04_Same) (keep := false) rfl rfl rfl rfl 0 (ref04_Same_loops R hrec_ref04_Same)) fun (x : Pat.dens ref04_Same_p) (y : HPat.dens ref04_Same_q) k => ref04_Same_ok hrec_ref04_Same ref04_Same_4_0_L (ref04_Same_9_0_L hrec_ref04_Same) (⟨x.1.1, ⟨x.1.2.1, x.1.2.2.1⟩, x.1.2.2.2.1, x.1.2.2.2.2.1, x.1.2.2.2.2.2.1⟩ : Json) (⟨x.2.1.1, ⟨x.2.1.2.1, x.2.1.2.2.1⟩, x.2.1.2.2.2.1, x.2.1.2.2.2.2.1, x.2.1.2.2.2.2.2.1⟩ : Json) k
noncomputable def ref04_Same_N {R : Type} : Nat → ref04_Same_ty R
  | 0, _, _, _ => none
  | n + 1, x0', x1', k0' => ref04_Same_B (ref04_Same_N n) x0' x1' k0'
theorem ref04_Same_N_succ {R : Type} (n : Nat) : ref04_Same_N (R := R) (n + 1) = ref04_Same_B (ref04_Same_N n) := by kernel_rfl
theorem ref04_Same_N_ok (R : Type) : ∀ n, Yard.Spec.Ok Try.prog 27 (specBy ref04_Same_p ref04_Same_q (ref04_Same_rr (ref04_Same_N (R := R) n)) specNo) :=
  specBy_fuel (run := fun n => ref04_Same_rr (ref04_Same_N (R := R) n)) (fun x y k => by kernel_rfl) fun n hyp => ref04_Same_S_okB R (ref04_Same_N n) hyp specNo (specNo_ok _)
noncomputable def ref04_Same {R : Type} : ref04_Same_ty R := fun x1 x2 k0 => ref04_Same_N (Json.depth x1 + 2) x1 x2 k0
theorem ref04_Same_r_ok (R : Type) : ref04_Same_rr (R := R) ref04_Same = fun x y k => ref04_Same_rr (ref04_Same_N (Json.depth (⟨x.1.1, ⟨x.1.2.1, x.1.2.2.1⟩, x.1.2.2.2.1, x.1.2.2.2.2.1, x.1.2.2.2.2.2.1⟩ : Json) + 2)) x y k := by kernel_rfl
theorem ref04_Same_S_ok (R : Type) (other : Yard.Spec R) (ho : Yard.Spec.Ok Try.prog 27 other) : Yard.Spec.Ok Try.prog 27 (specBy ref04_Same_p ref04_Same_q (ref04_Same_rr ref04_Same) other) :=
  specBy_run (specBy_at (run := fun n => ref04_Same_rr (ref04_Same_N (R := R) n)) (fun x y => (Json.depth (⟨x.1.1, ⟨x.1.2.1, x.1.2.2.1⟩, x.1.2.2.2.1, x.1.2.2.2.2.1, x.1.2.2.2.2.2.1⟩ : Json) + 2)) ho (ref04_Same_N_ok R)) (ref04_Same_r_ok R)

end Go.Proofs.Ytcocpfgemdkkfaa

/-
  What field's functions over JSON values compute: copies are the value itself, the reference's Same tells equality. Plain Lean over the printed functions. Own work.
-/
set_option linter.unusedVariables false
namespace Go.Proofs.Ytcocpfgemdkkfaa
open Go Go.Yard

def JOk (x : Json) : Prop := ∀ c ∈ Ty.cells .json x, Small 1048576 c

theorem JOk.text {x : Json} (h : JOk x) : x.text.length ≤ 1048576 := (h (.str x.text) (by simp [Ty.cells])).str_inv
theorem JOk.names {x : Json} (h : JOk x) : x.names.length ≤ 1048576 := (h (.sl .str x.names .no) (by simp [Ty.cells])).sl_inv.1
theorem JOk.items {x : Json} (h : JOk x) : x.items.length ≤ 1048576 := (h (.sl .json x.items .no) (by simp [Ty.cells])).sl_inv.1
theorem JOk.item {x : Json} (h : JOk x) {y : Json} (hy : y ∈ x.items) : JOk y := (h (.sl .json x.items .no) (by simp [Ty.cells])).sl_inv.2 y hy

theorem anyT_same {R : Type} {a b : Option R} (h : a = b) : anyT a b = b := by subst h; unfold anyT; rw [if_pos rfl]

theorem clone_str {R : Type} (l : List Str) (hl : l.length ≤ 1048576) (k : List Str → Option R) : slices_Clone_stringstring l k = k l := by
  unfold slices_Clone_stringstring slices_Clone_stringstring_X
  have h : decide ((0 + l.length) * 16 ≤ 140737488355328) = true := by simp; omega
  rw [chk_pos h]
  cases l with
  | nil => exact anyT_same rfl
  | cons a l => rfl

theorem clone_json {R : Type} (l : List Json) (hl : l.length ≤ 1048576) (k0 : Option R) (k1 : Nat → List Json → Option R) (h0 : l = [] → k0 = k1 0 []) : slices_Clone_JsonJson_4f56 l k0 k1 = k1 l.length l := by
  unfold slices_Clone_JsonJson_4f56 slices_Clone_JsonJson_4f56_X
  have h : decide ((0 + l.length) * 88 ≤ 140737488355328) = true := by simp; omega
  rw [chk_pos h, Nat.zero_add]
  cases l with
  | nil => exact anyT_same (h0 rfl)
  | cons a l => rfl

theorem depthL_mem {l : List Json} {y : Json} (h : y ∈ l) : y.depth ≤ Json.depthL l := by
  induction l with
  | nil => cases h
  | cons a l ih =>
    simp only [Json.depthL]
    rcases List.mem_cons.1 h with rfl | h
    · exact Nat.le_max_left _ _
    · exact Nat.le_trans (ih h) (Nat.le_max_right _ _)
theorem depth_eq (x : Json) : x.depth = Json.depthL x.items + 1 := by cases x; simp [Json.depth]
theorem depth_item {x y : Json} (h : y ∈ x.items) : y.depth < x.depth := by rw [depth_eq x]; exact Nat.lt_succ_of_le (depthL_mem h)

theorem set_same {α : Type} {l : List α} {i : Nat} (h : i < l.length) : l.set i l[i] = l := List.set_getElem_self h

theorem fresh_loop {R : Type} (f : field_fresh_ty R) (l : List Json) (hl : l.length ≤ 1048576) (hf : ∀ y ∈ l, ∀ k, f y k = k y) (a b c : Int) (t : Str) (ns : List Str) (p q r : Int) (u : Str)
    (e0 : Int → Int → Int → Str → List Str → Nat → Int → Int → Int → Str → List Json → Option R) : ∀ (n i : Nat), i ≤ l.length → l.length - i < n →
    field_fresh_4_1_L f n l.length (l.length : Int) (i : Int) a b c t ns l.length p q r u l e0 = e0 a b c t ns l.length p q r u l := by
  intro n
  induction n with
  | zero => intro i _ h; omega
  | succ n ih =>
    intro i hi hn
    show field_fresh_4_1_B f (fun x1 x2 x3 x4 x5 x6 x7 x8 x9 x10 x11 x12 x13 x14 => field_fresh_4_1_L f n x1 x2 x3 x4 x5 x6 x7 x8 x9 x10 x11 x12 x13 x14 e0) _ _ _ _ _ _ _ _ _ _ _ _ _ _ e0 = _
    unfold field_fresh_4_1_B
    by_cases h : i < l.length
    · have h1 : decide ((i : Int) < (l.length : Int)) = true := by simp; omega
      have h2 : (decide ((0 : Int) ≤ (i : Int)) && true) = true := by simp
      have h3 : decide ((i : Int).toNat < l.length) = true := by simp; omega
      have hw : IntKind.i64.wrap ((i : Int) + 1) = ((i + 1 : Nat) : Int) := by rw [wrap_id (by omega) (by omega)]; omega
      have hg : l.getD (i : Int).toNat (Ty.dflt .json) = l[i] := getD_at h _
      rw [h1, cond_true, chk_pos h2, chk_pos h3, hg, Json.eta, hf _ (List.getElem_mem h), chk_pos h2, chk_pos h3, hw, Json.eta]
      have hs : l.set (i : Int).toNat l[i] = l := set_same h
      rw [hs]
      exact ih (i + 1) (by omega) (by omega)
    · have h1 : decide ((i : Int) < (l.length : Int)) = false := by simp; omega
      rw [h1, cond_false]

theorem fresh_N {R : Type} : ∀ (n : Nat) (x : Json), JOk x → x.depth < n → ∀ k : Json → Option R, field_fresh_N n x k = k x := by
  intro n
  induction n with
  | zero => intro x _ h; omega
  | succ n ih =>
    intro x hx hd k
    show field_fresh_B (field_fresh_N n) x k = _
    unfold field_fresh_B field_fresh_X
    rw [clone_str _ hx.names, clone_json _ hx.items]
    · have := fresh_loop (field_fresh_N (R := R) n) x.items hx.items (fun y hy k => ih y (hx.item hy) (by have := depth_item hy; omega) k) x.kind x.num.mant x.num.exp x.text x.names 0 0 0 []
        (fun y40 y41 y42 y43 y44 y45 y46 y47 y48 y49 y50 => k (⟨y40, ⟨y41, y42⟩, y43, y44, y50⟩ : Json))
      refine (this _ 0 (by omega) (by omega)).trans ?_
      rw [Json.eta]
    · intro h0
      have : x = ⟨x.kind, ⟨x.num.mant, x.num.exp⟩, x.text, x.names, []⟩ := by rw [← h0, Json.eta]
      rfl

theorem fresh_eq {R : Type} (x : Json) (hx : JOk x) (k : Json → Option R) : field_fresh x k = k x := fresh_N _ x hx (by omega) k

/-! ### the reference's Same -/
theorem same_names {R : Type} (a b : Json) (ha : a.names.length ≤ 1048576) (hl : a.names.length = b.names.length) (e0 : Bool → Json → Json → Option R) (e1 : Json → Json → Option R) : ∀ (n i : Nat), i ≤ a.names.length → a.names.length - i < n →
    ref04_Same_4_0_L n (i : Int) a b e1 e0 = bif decide (a.names.drop i = b.names.drop i) then e1 a b else e0 false a b := by
  intro n
  induction n with
  | zero => intro i _ h; omega
  | succ n ih =>
    intro i hi hn
    show ref04_Same_4_0_B (fun x1 x2 x3 => ref04_Same_4_0_L n x1 x2 x3 e1 e0) _ _ _ e1 e0 = _
    unfold ref04_Same_4_0_B
    simp only [Json.eta]
    by_cases h : i < a.names.length
    · have h1 : decide ((i : Int) < (a.names.length : Int)) = true := by simp; omega
      have h2 : (decide ((0 : Int) ≤ (i : Int)) && true) = true := by simp
      have h2' : (decide ((0 : Int) ≤ (i : Int)) && decide ((i : Int) < b.names.length)) = true := by simp; omega
      have hw : IntKind.i64.wrap ((i : Int) + 1) = ((i + 1 : Nat) : Int) := by rw [wrap_id (by omega) (by omega)]; omega
      have hg : a.names.getD (i : Int).toNat (Ty.dflt .str) = a.names[i] := getD_at h _
      have hg' : b.names.getD (i : Int).toNat (Ty.dflt .str) = b.names[i] := getD_at (by omega) _
      have e1' := ih (i + 1) (by omega) (by omega)
      rw [h1, cond_true, chk_pos h2, chk_pos h2', hg, hg', hw]
      simp only [e1']
      rw [List.drop_eq_getElem_cons h, List.drop_eq_getElem_cons (show i < b.names.length by omega)]
      by_cases hq : a.names[i] = b.names[i]
      · have hqt : (a.names[i] == b.names[i]) = true := by simpa using hq
        simp only [hqt, Bool.not_true, cond_false, List.cons.injEq]
        simp only [hq, true_and]
      · have hqf : (a.names[i] == b.names[i]) = false := by simpa using hq
        simp only [hqf, Bool.not_false, cond_true, List.cons.injEq, hq, false_and, decide_false, cond_false]
    · have h1 : decide ((i : Int) < (a.names.length : Int)) = false := by simp; omega
      rw [h1, cond_false, List.drop_eq_nil_of_le (by omega), List.drop_eq_nil_of_le (by omega)]
      simp

theorem same_items {R : Type} (f : ref04_Same_ty R) (a b : Json) (ha : a.items.length ≤ 1048576) (hl : a.items.length = b.items.length) (hf : ∀ x ∈ a.items, ∀ y ∈ b.items, ∃ r : Bool, (r = true ↔ x = y) ∧ ∀ k, f x y k = k r)
    (e0 : Bool → Option R) (e1 : Option R) : ∀ (n i : Nat), i ≤ a.items.length → a.items.length - i < n →
    ∃ r : Bool, (r = true ↔ a.items.drop i = b.items.drop i) ∧ ref04_Same_9_0_L f n (i : Int) a b e1 e0 = bif r then e1 else e0 false := by
  intro n
  induction n with
  | zero => intro i _ h; omega
  | succ n ih =>
    intro i hi hn
    by_cases h : i < a.items.length
    · have h1 : decide ((i : Int) < (a.items.length : Int)) = true := by simp; omega
      have h2 : (decide ((0 : Int) ≤ (i : Int)) && true) = true := by simp
      have h2' : (decide ((0 : Int) ≤ (i : Int)) && decide ((i : Int) < b.items.length)) = true := by simp; omega
      have hw : IntKind.i64.wrap ((i : Int) + 1) = ((i + 1 : Nat) : Int) := by rw [wrap_id (by omega) (by omega)]; omega
      have hg : a.items.getD (i : Int).toNat (Ty.dflt .json) = a.items[i] := getD_at h _
      have hg' : b.items.getD (i : Int).toNat (Ty.dflt .json) = b.items[i] := getD_at (by omega) _
      obtain ⟨r, hr, hk⟩ := hf a.items[i] (List.getElem_mem h) b.items[i] (List.getElem_mem (by omega))
      obtain ⟨r2, hr2, hk2⟩ := ih (i + 1) (by omega) (by omega)
      refine ⟨r && r2, ?_, ?_⟩
      · rw [List.drop_eq_getElem_cons h, List.drop_eq_getElem_cons (show i < b.items.length by omega)]
        simp only [Bool.and_eq_true, hr, hr2, List.cons.injEq]
      · show ref04_Same_9_0_B f (fun x1 x2 x3 => ref04_Same_9_0_L f n x1 x2 x3 e1 e0) _ _ _ e1 e0 = _
        unfold ref04_Same_9_0_B
        simp only [Json.eta]
        rw [h1, cond_true, chk_pos h2, chk_pos h2', hg, hg', hk, hw, hk2]
        cases r <;> cases r2 <;> rfl
    · refine ⟨true, ?_, ?_⟩
      · rw [List.drop_eq_nil_of_le (by omega), List.drop_eq_nil_of_le (by omega)]
        simp
      · show ref04_Same_9_0_B f (fun x1 x2 x3 => ref04_Same_9_0_L f n x1 x2 x3 e1 e0) _ _ _ e1 e0 = _
        unfold ref04_Same_9_0_B
        have h1 : decide ((i : Int) < (a.items.length : Int)) = false := by simp; omega
        rw [h1]
        rfl

theorem same_N {R : Type} : ∀ (n : Nat) (a b : Json), JOk a → JOk b → a.depth < n → ∃ r : Bool, (r = true ↔ a = b) ∧ ∀ k : Bool → Option R, ref04_Same_N n a b k = k r := by
  intro n
  induction n with
  | zero => intro a b _ _ h; omega
  | succ n ih =>
    intro a b ha hb hd
    have no : (∀ k : Bool → Option R, ref04_Same_N (n + 1) a b k = k false) → a ≠ b → ∃ r : Bool, (r = true ↔ a = b) ∧ ∀ k : Bool → Option R, ref04_Same_N (n + 1) a b k = k r :=
      fun h1 h2 => ⟨false, by simp [h2], h1⟩
    have he : ∀ k : Bool → Option R, ref04_Same_N (n + 1) a b k = ref04_Same_X ref04_Same_4_0_L (ref04_Same_9_0_L (ref04_Same_N n)) a b k := fun k => rfl
    by_cases h1 : a.kind = b.kind
    · by_cases h2 : a.num = b.num
      · by_cases h3 : a.text = b.text
        · by_cases h4 : a.names.length = b.names.length
          · by_cases h5 : a.items.length = b.items.length
            · obtain ⟨r, hr, hk⟩ : ∃ r : Bool, (r = true ↔ a.items.drop 0 = b.items.drop 0) ∧ ∀ e0 e1, ref04_Same_9_0_L (R := R) (ref04_Same_N n) (Int.natAbs 0 + Json.fu a + Json.fu b + 3) ((0 : Nat) : Int) a b e1 e0 = bif r then e1 else e0 false := by
                have hf : ∀ x ∈ a.items, ∀ y ∈ b.items, ∃ r : Bool, (r = true ↔ x = y) ∧ ∀ k : Bool → Option R, ref04_Same_N n x y k = k r := fun x hx y hy => ih x y (ha.item hx) (hb.item hy) (by have := depth_item hx; omega)
                have hfu : a.items.length - 0 < Int.natAbs 0 + Json.fu a + Json.fu b + 3 := by unfold Json.fu; omega
                by_cases hq : a.items.drop 0 = b.items.drop 0
                · refine ⟨true, by simp [hq], fun e0 e1 => ?_⟩
                  obtain ⟨r, hr, hk⟩ := same_items (ref04_Same_N n) a b ha.items h5 hf e0 e1 _ 0 (by omega) hfu
                  rw [hr.2 hq] at hk
                  exact hk
                · refine ⟨false, by simpa using hq, fun e0 e1 => ?_⟩
                  obtain ⟨r, hr, hk⟩ := same_items (ref04_Same_N n) a b ha.items h5 hf e0 e1 _ 0 (by omega) hfu
                  have : r = false := by
                    cases r with
                    | false => rfl
                    | true => exact (hq (hr.1 rfl)).elim
                  rw [this] at hk
                  exact hk
              refine ⟨decide (a.names.drop 0 = b.names.drop 0) && r, ?_, fun k => ?_⟩
              · simp only [Bool.and_eq_true, decide_eq_true_eq, hr, List.drop_zero]
                constructor
                · rintro ⟨q1, q2⟩
                  cases a; cases b
                  simp_all
                · rintro rfl; exact ⟨rfl, rfl⟩
              · rw [he]
                unfold ref04_Same_X
                simp only [Json.eta]
                have c1 : (a.kind != b.kind) = false := by simp [h1]
                have c2 : (!(a.num.mant == b.num.mant && (a.num.exp == b.num.exp && true))) = false := by simp [h2]
                have c3 : (!(a.text == b.text)) = false := by simp [h3]
                have c4 : ((a.names.length : Int) != (b.names.length : Int)) = false := by simp [h4]
                have c5 : ((a.items.length : Int) != (b.items.length : Int)) = false := by simp [h5]
                rw [c1, c2, c3, c4, c5]
                simp only [cond_false]
                refine (same_names a b ha.names h4 _ _ _ 0 (by omega) (by unfold Json.fu; omega)).trans ?_
                have := hk (fun y15 => k y15) (k true)
                rw [show ((0 : Nat) : Int) = 0 from rfl] at this
                rw [this]
                cases decide (a.names.drop 0 = b.names.drop 0) <;> cases r <;> rfl
            · refine no (fun k => ?_) (fun e => h5 (by rw [e]))
              rw [he]
              unfold ref04_Same_X
              have c1 : (a.kind != b.kind) = false := by simp [h1]
              have c2 : (!(a.num.mant == b.num.mant && (a.num.exp == b.num.exp && true))) = false := by simp [h2]
              have c3 : (!(a.text == b.text)) = false := by simp [h3]
              have c4 : ((a.names.length : Int) != (b.names.length : Int)) = false := by simp [h4]
              have c5 : ((a.items.length : Int) != (b.items.length : Int)) = true := by simp; omega
              rw [c1, c2, c3, c4, c5]
              rfl
          · refine no (fun k => ?_) (fun e => h4 (by rw [e]))
            rw [he]
            unfold ref04_Same_X
            have c1 : (a.kind != b.kind) = false := by simp [h1]
            have c2 : (!(a.num.mant == b.num.mant && (a.num.exp == b.num.exp && true))) = false := by simp [h2]
            have c3 : (!(a.text == b.text)) = false := by simp [h3]
            have c4 : ((a.names.length : Int) != (b.names.length : Int)) = true := by simp; omega
            rw [c1, c2, c3, c4]
            rfl
        · refine no (fun k => ?_) (fun e => h3 (by rw [e]))
          rw [he]
          unfold ref04_Same_X
          have c1 : (a.kind != b.kind) = false := by simp [h1]
          have c2 : (!(a.num.mant == b.num.mant && (a.num.exp == b.num.exp && true))) = false := by simp [h2]
          have c3 : (!(a.text == b.text)) = true := by simp [h3]
          rw [c1, c2, c3]
          rfl
      · refine no (fun k => ?_) (fun e => h2 (by rw [e]))
        rw [he]
        unfold ref04_Same_X
        have c1 : (a.kind != b.kind) = false := by simp [h1]
        have c2 : (!(a.num.mant == b.num.mant && (a.num.exp == b.num.exp && true))) = true := by
          have : ¬ (a.num.mant = b.num.mant ∧ a.num.exp = b.num.exp) := fun ⟨q1, q2⟩ => h2 (by cases hq : a.num; cases hp : b.num; simp_all)
          simp only [Bool.and_true, Bool.not_eq_true', Bool.and_eq_false_imp, beq_iff_eq, beq_eq_false_iff_ne]
          exact fun q1 q2 => this ⟨q1, q2⟩
        rw [c1, c2]
        rfl
    · refine no (fun k => ?_) (fun e => h1 (by rw [e]))
      rw [he]
      unfold ref04_Same_X
      have c1 : (a.kind != b.kind) = true := by simp [h1]
      rw [c1]
      rfl

theorem same_eq {R : Type} (a b : Json) (ha : JOk a) (hb : JOk b) : ∃ r : Bool, (r = true ↔ a = b) ∧ ∀ k : Bool → Option R, ref04_Same a b k = k r := same_N _ a b ha hb (by omega)
theorem same_refl {R : Type} (a : Json) (ha : JOk a) (k : Bool → Option R) : ref04_Same a a k = k true := by
  obtain ⟨r, hr, hk⟩ := same_eq (R := R) a a ha ha
  rw [hk, hr.2 rfl]

/-! ### names found -/
theorem index_loop {R : Type} (l : List Str) (hl : l.length ≤ 1048576) (s : Str) (e0 : Int → Option R) (e1 : Option R) : ∀ (n i : Nat), i ≤ l.length → l.length - i < n →
    slices_Index_stringstring_2_0_L n l s (l.length : Int) (i : Int) e1 e0 = match (l.drop i).findIdx? (s == ·) with | some j => e0 ((i + j : Nat) : Int) | none => e1 := by
  intro n
  induction n with
  | zero => intro i _ h; omega
  | succ n ih =>
    intro i hi hn
    show slices_Index_stringstring_2_0_B (fun a b c d => slices_Index_stringstring_2_0_L n a b c d e1 e0) _ _ _ _ e1 e0 = _
    unfold slices_Index_stringstring_2_0_B
    by_cases h : i < l.length
    · have h1 : decide ((i : Int) < (l.length : Int)) = true := by simp; omega
      have h2 : (decide ((0 : Int) ≤ (i : Int)) && true) = true := by simp
      have hw : IntKind.i64.wrap ((i : Int) + 1) = ((i + 1 : Nat) : Int) := by rw [wrap_id (by omega) (by omega)]; omega
      have hg : l.getD (i : Int).toNat (Ty.dflt .str) = l[i] := getD_at h _
      have e1' := ih (i + 1) (by omega) (by omega)
      rw [h1, cond_true, chk_pos h2, hg, hw, List.drop_eq_getElem_cons h, List.findIdx?_cons]
      simp only [e1']
      cases hq : (s == l[i]) with
      | true => simp
      | false =>
        simp only [cond_false, Bool.false_eq_true, if_false]
        cases (l.drop (i + 1)).findIdx? (s == ·) with
        | none => rfl
        | some j =>
          show e0 ((i + 1 + j : Nat) : Int) = e0 ((i + (j + 1) : Nat) : Int)
          rw [show i + 1 + j = i + (j + 1) by omega]
    · have h1 : decide ((i : Int) < (l.length : Int)) = false := by simp; omega
      rw [h1, cond_false, List.drop_eq_nil_of_le (by omega)]
      rfl

theorem index_eq {R : Type} (l : List Str) (hl : l.length ≤ 1048576) (s : Str) (k : Int → Option R) : slices_Index_stringstring l s k = k (match l.findIdx? (s == ·) with | some j => (j : Int) | none => -1) := by
  unfold slices_Index_stringstring slices_Index_stringstring_X
  refine (index_loop l hl s _ _ _ 0 (by omega) (by omega)).trans ?_
  simp only [List.drop_zero, Nat.zero_add]
  cases l.findIdx? (s == ·) <;> rfl

theorem contains_eq {R : Type} (l : List Str) (hl : l.length ≤ 1048576) (s : Str) (k : Bool → Option R) : slices_Contains_stringstring l s k = k (l.contains s) := by
  unfold slices_Contains_stringstring slices_Contains_stringstring_X
  rw [index_eq l hl]
  congr 1
  cases hq : l.findIdx? (s == ·) with
  | none =>
    have : l.contains s = false := by
      rw [List.findIdx?_eq_none_iff] at hq
      rw [List.contains_eq_any_beq]
      simpa [List.any_eq_false] using hq
    rw [this]; rfl
  | some j =>
    have : l.contains s = true := by
      obtain ⟨hj, hp, _⟩ := List.findIdx?_eq_some_iff_getElem.1 hq
      rw [List.contains_eq_any_beq, List.any_eq_true]
      exact ⟨l[j], List.getElem_mem hj, hp⟩
    rw [this]
    simp

/-- The first value of a name. -/
def look (s : Str) : List Str → List Json → Option Json
  | n :: ns, x :: xs => if s == n then some x else look s ns xs
  | _, _ => none

theorem look_index (s : Str) : ∀ (ns : List Str) (xs : List Json), look s ns xs = (ns.findIdx? (s == ·)).bind fun j => xs[j]?
  | [], xs => by simp [look]
  | n :: ns, [] => by
    simp only [look]
    cases (n :: ns).findIdx? (s == ·) <;> simp
  | n :: ns, x :: xs => by
    simp only [look, List.findIdx?_cons]
    cases hq : (s == n) with
    | true => simp
    | false =>
      simp only [Bool.false_eq_true, if_false, look_index s ns xs]
      cases ns.findIdx? (s == ·) <;> simp

def zeroJ : Json := ⟨0, ⟨0, 0⟩, [], [], []⟩

theorem find_eq {R : Type} (v : Json) (hv : JOk v) (s : Str) (k : Json → Bool → Option R) :
    field_find v s k = match (if v.kind = 7 then look s v.names v.items else none) with | some x => k x true | none => k zeroJ false := by
  unfold field_find field_find_X
  rw [index_eq _ hv.names]
  by_cases h7 : v.kind = 7
  · have c1 : (v.kind != 7) = false := by simp [h7]
    rw [c1, cond_false, if_pos h7, look_index]
    cases hq : v.names.findIdx? (s == ·) with
    | none => rfl
    | some j =>
      have hj : decide ((j : Int) < 0) = false := by simp
      simp only [Option.bind_some]
      by_cases hi : j < v.items.length
      · have h1 : decide ((j : Int) < (0 : Int)) = false := by simp
        have h2 : decide ((j : Int) ≥ (v.items.length : Int)) = false := by simp; omega
        have h3 : (decide ((0 : Int) ≤ (j : Int)) && decide ((j : Int) < v.items.length)) = true := by simp; omega
        have hg : v.items.getD (j : Int).toNat (Ty.dflt .json) = v.items[j] := getD_at hi _
        simp only [h1, h2, cond_false, hg, Json.eta]
        rw [chk_pos h3]
        simp [hi]
      · have h1 : decide ((j : Int) < (0 : Int)) = false := by simp
        have h2 : decide ((j : Int) ≥ (v.items.length : Int)) = true := by simp; omega
        simp only [h1, h2, cond_false, cond_true]
        simp [show v.items.length ≤ j by omega]
        rfl
  · have c1 : (v.kind != 7) = true := by simp [h7]
    rw [c1, cond_true, if_neg h7]
    rfl
end Go.Proofs.Ytcocpfgemdkkfaa

/-
  Raw values made right: what the statements' own Fit functions hand back is small. Plain Lean over the printed functions. Own work.
-/
set_option linter.unusedVariables false
namespace Go.Proofs.Ytcocpfgemdkkfaa
open Go Go.Yard

def I64 (n : Int) : Prop := -9223372036854775808 ≤ n ∧ n ≤ 9223372036854775807
theorem i64_has {n : Int} : IntKind.i64.has n ↔ I64 n := by
  unfold IntKind.has I64
  simp only [IntKind.min, IntKind.max, IntKind.bits, IntKind.signed]
  simp

theorem pick_raw {R : Type} (c n : Int) (hc : I64 c) (h0 : 0 < n) (hn : n ≤ 9223372036854775807) : ∃ r : Int, 0 ≤ r ∧ r < n ∧ ∀ k : Int → Option R,
    (bif (decide (c < (0 : Int))) then (chk (!decide (n = 0)) (k (Int.tmod (IntKind.i64.wrap (0 - (IntKind.i64.wrap (c + 1)))) n))) else (chk (!decide (n = 0)) (k (Int.tmod c n)))) = k r := by
  obtain ⟨h1, h2⟩ := hc
  have hz : (!decide (n = 0)) = true := by simp; omega
  by_cases h : c < 0
  · refine ⟨Int.tmod (0 - (c + 1)) n, Int.tmod_nonneg _ (by omega), Int.tmod_lt_of_pos _ h0, fun k => ?_⟩
    have hd : decide (c < (0 : Int)) = true := by simpa using h
    rw [hd, cond_true, chk_pos hz, wrap_id (n := c + 1) (by omega) (by omega), wrap_id (by omega) (by omega)]
  · refine ⟨Int.tmod c n, Int.tmod_nonneg _ (by omega), Int.tmod_lt_of_pos _ h0, fun k => ?_⟩
    have hd : decide (c < (0 : Int)) = false := by simpa using h
    rw [hd, cond_false, chk_pos hz]

theorem pick04 {R : Type} (c n : Int) (hc : I64 c) (h0 : 0 < n) (hn : n ≤ 9223372036854775807) : ∃ r : Int, 0 ≤ r ∧ r < n ∧ ∀ k : Int → Option R, law04_pick c n k = k r := pick_raw c n hc h0 hn
theorem pick01 {R : Type} (c n : Int) (hc : I64 c) (h0 : 0 < n) (hn : n ≤ 9223372036854775807) : ∃ r : Int, 0 ≤ r ∧ r < n ∧ ∀ k : Int → Option R, law01_pick c n k = k r := pick_raw c n hc h0 hn
theorem pick02 {R : Type} (c n : Int) (hc : I64 c) (h0 : 0 < n) (hn : n ≤ 9223372036854775807) : ∃ r : Int, 0 ≤ r ∧ r < n ∧ ∀ k : Int → Option R, law02_pick c n k = k r := pick_raw c n hc h0 hn

theorem tdiv_abs (m k : Int) : (m.tdiv k).natAbs ≤ m.natAbs := by rw [Int.natAbs_tdiv]; exact Nat.div_le_self _ _

theorem fit01_loop {R : Type} (e : Int) (d : Dcm) : ∀ (n : Nat) (m : Int), m.natAbs < n → -1000000000000000 ≤ m → m ≤ 1000000000000000 →
    ∃ m' : Int, -1000000000000000 ≤ m' ∧ m' ≤ 1000000000000000 ∧ ∀ e0 : Int → Int → Dcm → Option R, law01_Fit_3_0_L n m e d e0 = e0 m' e d := by
  intro n
  induction n with
  | zero => intro m h; omega
  | succ n ih =>
    intro m hn h1 h2
    by_cases h0 : m = 0
    · refine ⟨m, h1, h2, fun e0 => ?_⟩
      show law01_Fit_3_0_B _ m e d e0 = _
      unfold law01_Fit_3_0_B
      have : (m != 0) = false := by simp [h0]
      rw [this, cond_false]
    · have c1 : (m != 0) = true := by simp [h0]
      cases c2 : (Int.tmod m 10 == 0) with
      | false =>
        refine ⟨m, h1, h2, fun e0 => ?_⟩
        show law01_Fit_3_0_B _ m e d e0 = _
        unfold law01_Fit_3_0_B
        rw [c1, cond_true, c2, cond_false]
      | true =>
        have hb : (Int.tdiv m 10).natAbs < n := by
          rw [Int.natAbs_tdiv]
          show m.natAbs / 10 < n
          omega
        have hta := tdiv_abs m 10
        have hq : -1000000000000000 ≤ Int.tdiv m 10 ∧ Int.tdiv m 10 ≤ 1000000000000000 := by omega
        obtain ⟨m', g1, g2, g3⟩ := ih (Int.tdiv m 10) hb hq.1 hq.2
        refine ⟨m', g1, g2, fun e0 => ?_⟩
        show law01_Fit_3_0_B (fun a b c => law01_Fit_3_0_L n a b c e0) m e d e0 = _
        unfold law01_Fit_3_0_B
        rw [c1, cond_true, c2, cond_true, wrap_id (by omega) (by omega)]
        exact g3 e0

theorem fit01 {R : Type} (a b : Int) (ha : I64 a) (hb : I64 b) : ∃ d : Dcm, I64 d.mant ∧ I64 d.exp ∧ ∀ k : Dcm → Option R, law01_Fit a b k = k d := by
  obtain ⟨y3, p1, p2, p3⟩ := pick01 (R := R) a 2000000000000001 ha (by decide) (by decide)
  obtain ⟨y4, q1, q2, q3⟩ := pick01 (R := R) b 19 hb (by decide) (by decide)
  obtain ⟨m', g1, g2, g3⟩ := fit01_loop (R := R) (y4 - 9) ⟨0, 0⟩ (Int.natAbs (y3 - 1000000000000000) + Int.natAbs (y4 - 9) + Dcm.fu (⟨0, 0⟩ : Dcm) + 3) (y3 - 1000000000000000) (by omega) (by omega) (by omega)
  refine ⟨if m' = 0 then ⟨m', 0⟩ else ⟨m', y4 - 9⟩, ?_, ?_, fun k => ?_⟩
  · split <;> (unfold I64; simp only; omega)
  · split <;> (unfold I64; simp only; omega)
  · unfold law01_Fit law01_Fit_X
    rw [p3, q3, wrap_id (by omega) (by omega), wrap_id (by omega) (by omega), g3]
    by_cases h0 : m' = 0
    · simp [h0]
    · have : (m' == 0) = false := by simpa using h0
      rw [this, if_neg h0]
      rfl

theorem rune_len (x : Int) : (runesB [x]).length ≤ 4 := by
  have := Go.encode_size_le x
  simpa [runesB] using this

theorem text_loop {R : Type} (raw : List Int) (hr : ∀ x ∈ raw, I64 x) (hl : raw.length ≤ 1048576) : ∀ (n i : Nat) (s : Str), i ≤ raw.length → i ≤ 200 → raw.length - i < n → s.length ≤ 4 * i →
    ∃ r : Str, r.length ≤ 800 ∧ ∀ e0 : Str → Option R, law02_Text_3_0_L n raw s (i : Int) e0 = e0 r := by
  intro n
  induction n with
  | zero => intro i s _ _ h; omega
  | succ n ih =>
    intro i s hi h200 hn hs
    by_cases h : i < raw.length ∧ i < 200
    · obtain ⟨h, h2⟩ := h
      have c1 : decide ((i : Int) < (raw.length : Int)) = true := by simp; omega
      have c2 : decide ((i : Int) < (200 : Int)) = true := by simp; omega
      have c3 : (decide ((0 : Int) ≤ (i : Int)) && true) = true := by simp
      have hw : IntKind.i64.wrap ((i : Int) + 1) = ((i + 1 : Nat) : Int) := by rw [wrap_id (by omega) (by omega)]; omega
      have hg : raw.getD (i : Int).toNat (Ty.dflt (.int .i64)) = raw[i] := getD_at h _
      have hx := hr raw[i] (List.getElem_mem h)
      obtain ⟨hx1, hx2⟩ := hx
      have hta : (Int.tdiv raw[i] 5).natAbs = raw[i].natAbs / 5 := by rw [Int.natAbs_tdiv]; rfl
      have hq : IntKind.i64.wrap (Int.tdiv raw[i] 5) = Int.tdiv raw[i] 5 := wrap_id (by omega) (by omega)
      have hqi : I64 (Int.tdiv raw[i] 5) := ⟨by omega, by omega⟩
      obtain ⟨y, p1, p2, p3⟩ := pick02 (R := R) raw[i] 5 ⟨hx1, hx2⟩ (by decide) (by decide)
      obtain ⟨a1, _, _, q1⟩ := pick02 (R := R) (Int.tdiv raw[i] 5) 128 hqi (by decide) (by decide)
      obtain ⟨a2, _, _, q2⟩ := pick02 (R := R) (Int.tdiv raw[i] 5) 2048 hqi (by decide) (by decide)
      obtain ⟨a3, _, _, q3⟩ := pick02 (R := R) (Int.tdiv raw[i] 5) 65536 hqi (by decide) (by decide)
      obtain ⟨a4, _, _, q4⟩ := pick02 (R := R) (Int.tdiv raw[i] 5) 1114112 hqi (by decide) (by decide)
      have step : ∀ x : Int, ∃ r : Str, r.length ≤ 800 ∧ ∀ e0 : Str → Option R,
          chk (decide (s.length + (runesB [x]).length ≤ 9223372036854775807)) (law02_Text_3_0_L n raw (s ++ runesB [x]) ((i + 1 : Nat) : Int) e0) = e0 r := by
        intro x
        have hx := rune_len x
        obtain ⟨r, g1, g2⟩ := ih (i + 1) (s ++ runesB [x]) (by omega) (by omega) (by omega) (by simp; omega)
        exact ⟨r, g1, fun e0 => by rw [chk_pos (by simp; omega)]; exact g2 e0⟩
      have arm : ∀ v : Int, ∃ r : Str, r.length ≤ 800 ∧ ∀ e0 : Str → Option R,
          (bif (decide (v ≥ (55296 : Int))) then (bif (decide (v ≤ (57343 : Int))) then (chk (decide (s.length + (runesB ([120] : List Int)).length ≤ 9223372036854775807)) (law02_Text_3_0_L n raw (s ++ (runesB ([120] : List Int))) ((i + 1 : Nat) : Int) e0)) else (chk (decide (s.length + (runesB ([(IntKind.i32.wrap v)] : List Int)).length ≤ 9223372036854775807)) (law02_Text_3_0_L n raw (s ++ (runesB ([(IntKind.i32.wrap v)] : List Int))) ((i + 1 : Nat) : Int) e0))) else (chk (decide (s.length + (runesB ([(IntKind.i32.wrap v)] : List Int)).length ≤ 9223372036854775807)) (law02_Text_3_0_L n raw (s ++ (runesB ([(IntKind.i32.wrap v)] : List Int))) ((i + 1 : Nat) : Int) e0))) = e0 r := by
        intro v
        cases decide (v ≥ (55296 : Int)) with
        | false => simpa only [cond_false] using step _
        | true =>
          cases decide (v ≤ (57343 : Int)) with
          | false => simpa only [cond_false, cond_true] using step _
          | true => simpa only [cond_true] using step _
      have all : ∃ v : Int, ∀ e0 : Str → Option R, law02_Text_3_0_L (n + 1) raw s (i : Int) e0 =
          (bif (decide (v ≥ (55296 : Int))) then (bif (decide (v ≤ (57343 : Int))) then (chk (decide (s.length + (runesB ([120] : List Int)).length ≤ 9223372036854775807)) (law02_Text_3_0_L n raw (s ++ (runesB ([120] : List Int))) ((i + 1 : Nat) : Int) e0)) else (chk (decide (s.length + (runesB ([(IntKind.i32.wrap v)] : List Int)).length ≤ 9223372036854775807)) (law02_Text_3_0_L n raw (s ++ (runesB ([(IntKind.i32.wrap v)] : List Int))) ((i + 1 : Nat) : Int) e0))) else (chk (decide (s.length + (runesB ([(IntKind.i32.wrap v)] : List Int)).length ≤ 9223372036854775807)) (law02_Text_3_0_L n raw (s ++ (runesB ([(IntKind.i32.wrap v)] : List Int))) ((i + 1 : Nat) : Int) e0))) := by
        refine ⟨bif (y == 0) || (y == 1) then a1 else bif y == 2 then a2 else bif y == 3 then a3 else a4, fun e0 => ?_⟩
        show law02_Text_3_0_B law02_pick (fun a b c => law02_Text_3_0_L n a b c e0) raw s (i : Int) e0 = _
        unfold law02_Text_3_0_B
        simp only [c1, cond_true, c2, hg, hq, hw, p3, q1, q2, q3, q4]
        rw [chk_pos c3]
        cases hy0 : (y == 0) with
        | true => simp only [cond_true, Bool.true_or]
        | false =>
          cases hy1 : (y == 1) with
          | true => simp only [cond_true, cond_false, Bool.false_or]
          | false =>
            simp only [cond_false, Bool.or_self]
            cases hy2 : (y == 2) with
            | true => simp only [cond_true]
            | false =>
              simp only [cond_false]
              cases hy3 : (y == 3) with
              | true => simp only [cond_true]
              | false => simp only [cond_false]
      obtain ⟨v, hv⟩ := all
      obtain ⟨r, g1, g2⟩ := arm v
      exact ⟨r, g1, fun e0 => (hv e0).trans (g2 e0)⟩
    · refine ⟨s, by omega, fun e0 => ?_⟩
      show law02_Text_3_0_B law02_pick _ raw s (i : Int) e0 = _
      unfold law02_Text_3_0_B
      by_cases h1 : i < raw.length
      · have c1 : decide ((i : Int) < (raw.length : Int)) = true := by simp; omega
        have c2 : decide ((i : Int) < (200 : Int)) = false := by simp; omega
        simp only [c1, c2, cond_true, cond_false]
      · have c1 : decide ((i : Int) < (raw.length : Int)) = false := by simp; omega
        simp only [c1, cond_false]

theorem text_eq {R : Type} (raw : List Int) (hr : ∀ x ∈ raw, I64 x) (hl : raw.length ≤ 1048576) : ∃ r : Str, r.length ≤ 800 ∧ ∀ k : Str → Option R, law02_Text raw k = k r := by
  obtain ⟨r, h1, h2⟩ := text_loop (R := R) raw hr hl (List.length raw + List.length ([] : Str) + Int.natAbs 0 + 3) 0 [] (by omega) (by omega) (by first | omega | (simp; done) | (simp; omega)) (by simp)
  exact ⟨r, h1, fun k => h2 k⟩

/-! ### values -/
def RawOk (x : Raw) : Prop := ∀ c ∈ Ty.cells .raw x, Small 1048576 c
theorem RawOk.kind {x : Raw} (h : RawOk x) : I64 x.kind := i64_has.1 (h (.int .i64 x.kind) (by simp [Ty.cells])).int_inv
theorem RawOk.mant {x : Raw} (h : RawOk x) : I64 x.mant := i64_has.1 (h (.int .i64 x.mant) (by simp [Ty.cells])).int_inv
theorem RawOk.exp {x : Raw} (h : RawOk x) : I64 x.exp := i64_has.1 (h (.int .i64 x.exp) (by simp [Ty.cells])).int_inv
theorem RawOk.text {x : Raw} (h : RawOk x) : x.text.length ≤ 1048576 := (h (.sl (.int .i64) x.text .no) (by simp [Ty.cells])).sl_inv.1
theorem RawOk.letter {x : Raw} (h : RawOk x) {n : Int} (hn : n ∈ x.text) : I64 n :=
  i64_has.1 ((h (.sl (.int .i64) x.text .no) (by simp [Ty.cells])).sl_inv.2 n hn (.int .i64 n) (by simp [Ty.cells])).int_inv
theorem RawOk.items {x : Raw} (h : RawOk x) : x.items.length ≤ 1048576 := (h (.sl .raw x.items .no) (by simp [Ty.cells])).sl_inv.1
theorem RawOk.item {x : Raw} (h : RawOk x) {y : Raw} (hy : y ∈ x.items) : RawOk y := (h (.sl .raw x.items .no) (by simp [Ty.cells])).sl_inv.2 y hy

theorem jok_mk {k m e : Int} {t : Str} {ns : List Str} {xs : List Json} (hk : I64 k) (hm : I64 m) (he : I64 e) (ht : t.length ≤ 1048576) (hn : ns.length ≤ 1048576) (hns : ∀ s ∈ ns, s.length ≤ 1048576) (hx : xs.length ≤ 1048576) (hxs : ∀ y ∈ xs, JOk y) :
    JOk ⟨k, ⟨m, e⟩, t, ns, xs⟩ := by
  intro c hc
  simp only [Ty.cells, List.mem_cons, List.not_mem_nil, or_false] at hc
  rcases hc with rfl | rfl | rfl | rfl | rfl | rfl
  · exact .int (i64_has.2 hk)
  · exact .int (i64_has.2 hm)
  · exact .int (i64_has.2 he)
  · exact .str ht
  · exact .sl hn fun s hs v hv => by
      simp only [Ty.cells, List.mem_singleton] at hv
      subst hv
      exact .str (hns s hs)
  · exact .sl hx fun y hy v hv => hxs y hy v hv

theorem rdepthL_mem {l : List Raw} {y : Raw} (h : y ∈ l) : y.depth ≤ Raw.depthL l := by
  induction l with
  | nil => cases h
  | cons a l ih =>
    simp only [Raw.depthL]
    rcases List.mem_cons.1 h with rfl | h
    · exact Nat.le_max_left _ _
    · exact Nat.le_trans (ih h) (Nat.le_max_right _ _)
theorem rdepth_item {x y : Raw} (h : y ∈ x.items) : y.depth < x.depth := by
  have : x.depth = Raw.depthL x.items + 1 := by cases x; simp [Raw.depth]
  rw [this]; exact Nat.lt_succ_of_le (rdepthL_mem h)

theorem fit_in {R : Type} (a b c : Int) (s : Str) (x : Raw) (d e f : Int) (t : Str) (g h j : Int) (u : Str) (ns : List Str) (xs : List Json) (y : Raw) (hn : ns.length ≤ 1048576) : ∀ (n i : Nat) (q : Bool), i ≤ ns.length → ns.length - i < n →
    ∃ q' : Bool, ∀ e0, law04_Fit_18_0_L (R := R) n a b c s q (i : Int) x d e f t g h j u ns xs y e0 = e0 a b c s q' x d e f t g h j u ns xs y := by
  intro n
  induction n with
  | zero => intro i q _ h; omega
  | succ n ih =>
    intro i q hi hni
    by_cases hlt : i < ns.length
    · have c1 : decide ((i : Int) < (ns.length : Int)) = true := by simp; omega
      have c3 : (decide ((0 : Int) ≤ (i : Int)) && true) = true := by simp
      have hw : IntKind.i64.wrap ((i : Int) + 1) = ((i + 1 : Nat) : Int) := by rw [wrap_id (by omega) (by omega)]; omega
      have hg : ns.getD (i : Int).toNat (Ty.dflt .str) = ns[i] := getD_at hlt _
      obtain ⟨q', hq'⟩ := ih (i + 1) (bif q then true else ns[i] == s) (by omega) (by omega)
      refine ⟨q', fun e0 => ?_⟩
      rw [← hq' e0]
      show law04_Fit_18_0_B (fun a1 a2 a3 a4 a5 a6 a7 a8 a9 a10 a11 a12 a13 a14 a15 a16 a17 a18 => law04_Fit_18_0_L n a1 a2 a3 a4 a5 a6 a7 a8 a9 a10 a11 a12 a13 a14 a15 a16 a17 a18 e0) _ _ _ _ _ _ _ _ _ _ _ _ _ _ _ _ _ _ e0 = _
      unfold law04_Fit_18_0_B
      simp only [c1, cond_true, hw, hg, Raw.eta]
      cases q with
      | true => rfl
      | false => simp only [cond_false]; rw [chk_pos c3]
    · refine ⟨q, fun e0 => ?_⟩
      have c1 : decide ((i : Int) < (ns.length : Int)) = false := by simp; omega
      show law04_Fit_18_0_B _ _ _ _ _ _ _ _ _ _ _ _ _ _ _ _ _ _ _ e0 = _
      unfold law04_Fit_18_0_B
      simp only [c1, cond_false, Raw.eta]

theorem fit_loop {R : Type} (F : law04_Fit_ty R) (d : Int) (hd0 : 0 ≤ d) (hd : d ≤ 16) (kd : Int) (x : Raw) (hx : RawOk x) (hF : ∀ y ∈ x.items, ∀ d' : Int, 0 ≤ d' → d' ≤ 16 → ∃ j, JOk j ∧ ∀ k, F y d' k = k j) (a b c : Int) (t : Str) (e f g : Int) (u : Str) :
    ∀ (n i : Nat) (ns : List Str) (xs : List Json), i ≤ x.items.length → i ≤ 12 → x.items.length - i < n → ns.length ≤ i → xs.length ≤ i → (∀ s ∈ ns, s.length ≤ 800) → (∀ y ∈ xs, JOk y) →
    ∃ (ns' : List Str) (xs' : List Json), ns'.length ≤ 12 ∧ xs'.length ≤ 12 ∧ (∀ s ∈ ns', s.length ≤ 800) ∧ (∀ y ∈ xs', JOk y) ∧
      ∀ e0, law04_Fit_11_0_L F n d kd (i : Int) x a b c t e f g u ns xs e0 = e0 a b c t e f g u ns' xs' := by
  intro n
  induction n with
  | zero => intro i ns xs _ _ h; omega
  | succ n ih =>
    intro i ns xs hi h12 hn hnl hxl hns hxs
    by_cases h : i < x.items.length ∧ i < 12 ∧ d < 16
    · obtain ⟨h, h2, hd16⟩ := h
      have c1 : decide ((i : Int) < (x.items.length : Int)) = true := by simp; omega
      have c2 : decide ((i : Int) < (12 : Int)) = true := by simp; omega
      have c3 : decide (d < (16 : Int)) = true := by simpa using hd16
      have c4 : (decide ((0 : Int) ≤ (i : Int)) && true) = true := by simp
      have hw : IntKind.i64.wrap ((i : Int) + 1) = ((i + 1 : Nat) : Int) := by rw [wrap_id (by omega) (by omega)]; omega
      have hwd : IntKind.i64.wrap (d + 1) = d + 1 := wrap_id (by omega) (by omega)
      have hg : x.items.getD (i : Int).toNat (Ty.dflt .raw) = x.items[i] := getD_at h _
      have hy := hx.item (List.getElem_mem h)
      obtain ⟨s, hs1, hs2⟩ := text_eq (R := R) ((x.items[i].text.drop 0).take ((min (x.items[i].text.length : Int) 8).toNat - 0)) (fun z hz => hy.letter (List.mem_of_mem_drop (List.mem_of_mem_take hz))) (by have := hy.text; simp; omega)
      obtain ⟨j, hj1, hj2⟩ := hF x.items[i] (List.getElem_mem h) (d + 1) (by omega) (by omega)
      have r1 : decide ((ns.length + 1) * 16 ≤ 140737488355328) = true := by simp; omega
      have r2 : decide ((xs.length + 1) * 88 ≤ 140737488355328) = true := by simp; omega
      have k1 : (decide ((0 : Int) ≤ (min (x.items[i].text.length : Int) 8)) && decide ((min (x.items[i].text.length : Int) 8) ≤ x.items[i].text.length)) = true := by simp; omega
      have k2 : decide ((0 : Int) ≤ (min (x.items[i].text.length : Int) 8)) = true := by simp; omega
      cases c7 : (kd == 7) with
      | false =>
        obtain ⟨ns', xs', g1, g2, g3, g4, g5⟩ := ih (i + 1) ns (xs ++ [j]) (by omega) (by omega) (by omega) (by omega) (by simp; omega) hns (fun y hy => by
          rcases List.mem_append.1 hy with hy | hy
          · exact hxs y hy
          · simp at hy; subst hy; exact hj1)
        refine ⟨ns', xs', g1, g2, g3, g4, fun e0 => ?_⟩
        rw [← g5 e0]
        show law04_Fit_11_0_B F law02_Text law04_Fit_18_0_L (fun a1 a2 a3 a4 a5 a6 a7 a8 a9 a10 a11 a12 a13 a14 => law04_Fit_11_0_L F n a1 a2 a3 a4 a5 a6 a7 a8 a9 a10 a11 a12 a13 a14 e0) _ _ _ _ _ _ _ _ _ _ _ _ _ _ e0 = _
        unfold law04_Fit_11_0_B
        simp only [c1, c2, c3, cond_true, hg, hw, hwd, Raw.eta, Json.eta]
        rw [chk_pos c4, chk_pos k1, chk_pos k2, hs2]
        simp only [c7, cond_false, hj2]
        rw [chk_pos r2]
      | true =>
        obtain ⟨q, hq⟩ := fit_in (R := R) d kd (i : Int) s x a b c t e f g u ns xs x.items[i] (by omega)
          (Int.natAbs d + Int.natAbs kd + Int.natAbs (i : Int) + List.length s + Int.natAbs 0 + Raw.fu x + Int.natAbs a + Int.natAbs b + Int.natAbs c + List.length t + Int.natAbs e + Int.natAbs f + Int.natAbs g + List.length u + List.length ns + List.length xs + Raw.fu x.items[i] + 3) 0 false (by omega) (by omega)
        cases q with
        | true =>
          obtain ⟨ns', xs', g1, g2, g3, g4, g5⟩ := ih (i + 1) ns xs (by omega) (by omega) (by omega) (by omega) (by omega) hns hxs
          refine ⟨ns', xs', g1, g2, g3, g4, fun e0 => ?_⟩
          rw [← g5 e0]
          show law04_Fit_11_0_B F law02_Text law04_Fit_18_0_L (fun a1 a2 a3 a4 a5 a6 a7 a8 a9 a10 a11 a12 a13 a14 => law04_Fit_11_0_L F n a1 a2 a3 a4 a5 a6 a7 a8 a9 a10 a11 a12 a13 a14 e0) _ _ _ _ _ _ _ _ _ _ _ _ _ _ e0 = _
          unfold law04_Fit_11_0_B
          simp only [c1, c2, c3, cond_true, hg, hw, hwd, Raw.eta, Json.eta]
          rw [chk_pos c4, chk_pos k1, chk_pos k2, hs2]
          simp only [c7, cond_true]
          refine (hq _).trans ?_
          simp only [cond_true, hw]
        | false =>
          obtain ⟨ns', xs', g1, g2, g3, g4, g5⟩ := ih (i + 1) (ns ++ [s]) (xs ++ [j]) (by omega) (by omega) (by omega) (by simp; omega) (by simp; omega) (fun z hz => by
            rcases List.mem_append.1 hz with hz | hz
            · exact hns z hz
            · simp at hz; subst hz; exact hs1) (fun y hy => by
            rcases List.mem_append.1 hy with hy | hy
            · exact hxs y hy
            · simp at hy; subst hy; exact hj1)
          refine ⟨ns', xs', g1, g2, g3, g4, fun e0 => ?_⟩
          rw [← g5 e0]
          show law04_Fit_11_0_B F law02_Text law04_Fit_18_0_L (fun a1 a2 a3 a4 a5 a6 a7 a8 a9 a10 a11 a12 a13 a14 => law04_Fit_11_0_L F n a1 a2 a3 a4 a5 a6 a7 a8 a9 a10 a11 a12 a13 a14 e0) _ _ _ _ _ _ _ _ _ _ _ _ _ _ e0 = _
          unfold law04_Fit_11_0_B
          simp only [c1, c2, c3, cond_true, hg, hw, hwd, Raw.eta, Json.eta]
          rw [chk_pos c4, chk_pos k1, chk_pos k2, hs2]
          simp only [c7, cond_true]
          refine (hq _).trans ?_
          simp only [cond_false, hw, hwd]
          rw [chk_pos r1, hj2, chk_pos r2]
    · refine ⟨ns, xs, by omega, by omega, hns, hxs, fun e0 => ?_⟩
      show law04_Fit_11_0_B F law02_Text law04_Fit_18_0_L _ _ _ _ _ _ _ _ _ _ _ _ _ _ _ e0 = _
      unfold law04_Fit_11_0_B
      by_cases h1 : i < x.items.length
      · have c1 : decide ((i : Int) < (x.items.length : Int)) = true := by simp; omega
        by_cases h2 : i < 12
        · have c2 : decide ((i : Int) < (12 : Int)) = true := by simp; omega
          have c3 : decide (d < (16 : Int)) = false := by simp; omega
          simp only [c1, c2, c3, cond_true, cond_false]
        · have c2 : decide ((i : Int) < (12 : Int)) = false := by simp; omega
          simp only [c1, c2, cond_true, cond_false]
      · have c1 : decide ((i : Int) < (x.items.length : Int)) = false := by simp; omega
        simp only [c1, cond_false]

theorem fit_N {R : Type} : ∀ (n : Nat) (x : Raw) (d : Int), RawOk x → 0 ≤ d → d ≤ 16 → x.depth < n → ∃ j, JOk j ∧ ∀ k : Json → Option R, law04_Fit_N n x d k = k j := by
  intro n
  induction n with
  | zero => intro x d _ _ _ h; omega
  | succ n ih =>
    intro x d hx hd0 hd hdep
    obtain ⟨y, p1, p2, p3⟩ := pick04 (R := R) x.kind 7 hx.kind (by decide) (by decide)
    have hw : IntKind.i64.wrap (1 + y) = 1 + y := wrap_id (by omega) (by omega)
    have hk : I64 (1 + y) := ⟨by omega, by omega⟩
    have z64 : I64 0 := ⟨by decide, by decide⟩
    have he : ∀ k : Json → Option R, law04_Fit_N (n + 1) x d k = law04_Fit_X law04_pick law01_Fit law02_Text (law04_Fit_11_0_L (law04_Fit_N n)) x d k := fun k => rfl
    cases c4 : (1 + y == 4) with
    | true =>
      obtain ⟨m, m1, m2, m3⟩ := fit01 (R := R) x.mant x.exp hx.mant hx.exp
      refine ⟨⟨1 + y, ⟨m.mant, m.exp⟩, [], [], []⟩, jok_mk hk m1 m2 (by simp) (by simp) (by simp) (by simp) (by simp), fun k => ?_⟩
      rw [he]
      unfold law04_Fit_X
      simp only [p3, hw, c4, cond_true, m3]
    | false =>
      cases c5 : (1 + y == 5) with
      | true =>
        obtain ⟨s, hs1, hs2⟩ := text_eq (R := R) ((x.text.drop 0).take ((min (x.text.length : Int) 20).toNat - 0)) (fun z hz => hx.letter (List.mem_of_mem_drop (List.mem_of_mem_take hz))) (by have := hx.text; simp; omega)
        refine ⟨⟨1 + y, ⟨0, 0⟩, s, [], []⟩, jok_mk hk z64 z64 (by omega) (by simp) (by simp) (by simp) (by simp), fun k => ?_⟩
        rw [he]
        unfold law04_Fit_X
        simp only [p3, hw, c4, c5, cond_true, cond_false]
        rw [chk_pos (by simp; omega), chk_pos (by simp; omega), hs2]
      | false =>
        obtain ⟨ns, xs, g1, g2, g3, g4, g5⟩ := fit_loop (R := R) (law04_Fit_N n) d hd0 hd (1 + y) x hx (fun z hz d' h1 h2 => ih z d' (hx.item hz) h1 h2 (by have := rdepth_item hz; omega)) 0 0 0 [] (1 + y) 0 0 []
          (Int.natAbs d + Int.natAbs (1 + y) + Int.natAbs 0 + Raw.fu x + Int.natAbs 0 + Int.natAbs 0 + Int.natAbs 0 + List.length ([] : Str) + Int.natAbs (1 + y) + Int.natAbs 0 + Int.natAbs 0 + List.length ([] : Str) + List.length ([] : List Str) + List.length ([] : List Json) + 3) 0 [] []
          (by omega) (by omega) (by unfold Raw.fu; omega) (by simp) (by simp) (by simp) (by simp)
        have go : ∀ k : Json → Option R, law04_Fit_11_0_L (law04_Fit_N n) (Int.natAbs d + Int.natAbs (1 + y) + Int.natAbs 0 + Raw.fu x + Int.natAbs 0 + Int.natAbs 0 + Int.natAbs 0 + List.length ([] : Str) + Int.natAbs (1 + y) + Int.natAbs 0 + Int.natAbs 0 + List.length ([] : Str) + List.length ([] : List Str) + List.length ([] : List Json) + 3) d (1 + y) 0 x 0 0 0 [] (1 + y) 0 0 [] [] []
            (fun y61 y62 y63 y64 y65 y66 y67 y68 y69 y70 => k (⟨y65, ⟨y66, y67⟩, y68, y69, y70⟩ : Json)) = k ⟨1 + y, ⟨0, 0⟩, [], ns, xs⟩ := fun k => g5 _
        cases c67 : ((1 + y == 6) || (1 + y == 7)) with
        | true =>
          refine ⟨⟨1 + y, ⟨0, 0⟩, [], ns, xs⟩, jok_mk hk z64 z64 (by simp) (by omega) (fun s hs => Nat.le_trans (g3 s hs) (by decide)) (by omega) g4, fun k => ?_⟩
          rw [he]
          unfold law04_Fit_X
          simp only [p3, hw, c4, c5, cond_false, Raw.eta]
          cases c6 : (1 + y == 6) with
          | true => simp only [cond_true]; exact go k
          | false =>
            rw [c6, Bool.false_or] at c67
            simp only [c67, cond_true, cond_false]
            exact go k
        | false =>
          simp only [Bool.or_eq_false_iff] at c67
          refine ⟨⟨1 + y, ⟨0, 0⟩, [], [], []⟩, jok_mk hk z64 z64 (by simp) (by simp) (by simp) (by simp) (by simp), fun k => ?_⟩
          rw [he]
          unfold law04_Fit_X
          simp only [p3, hw, c4, c5, c67.1, c67.2, cond_false]

theorem fit_eq {R : Type} (x : Raw) (hx : RawOk x) (d : Int) (hd0 : 0 ≤ d) (hd : d ≤ 16) : ∃ j, JOk j ∧ ∀ k : Json → Option R, law04_Fit x d k = k j := fit_N _ x d hx hd0 hd (by omega)
end Go.Proofs.Ytcocpfgemdkkfaa

/-
  What FieldMissing computes: true. Plain Lean over the printed functions. Own work.
-/
set_option linter.unusedVariables false
namespace Go.Proofs.Ytcocpfgemdkkfaa
open Go Go.Yard

def obj0 : Json := ⟨7, ⟨0, 0⟩, [], [], []⟩

theorem law05_awake_true {R : Type} (k : Bool → Option R) : law05_awake k = k true := by kernel_rfl
theorem make_nil {R : Type} (k : Json → Option R) : field_Make [] [] k = k obj0 := by kernel_rfl
theorem find_obj0 {R : Type} (s : Str) (k : Json → Bool → Option R) : field_find obj0 s k = k ⟨0, ⟨0, 0⟩, [], [], []⟩ false := by kernel_rfl

def need (f : Fld) : Bool := !f.free

theorem check_loop {R : Type} (l : List Fld) (hl : l.length ≤ 1048576) (e0 : Int → Option R) (e1 : Option R) : ∀ (n i : Nat), i ≤ l.length → l.length - i < n →
    field_Check_2_0_L n l (l.length : Int) (i : Int) obj0 e1 e0 = match (l.drop i).findIdx? need with | some j => e0 ((i + j : Nat) : Int) | none => e1 := by
  intro n
  induction n with
  | zero => intro i _ h; omega
  | succ n ih =>
    intro i hi hn
    show field_Check_2_0_B field_find field_fits (fun a b c d => field_Check_2_0_L n a b c d e1 e0) l (l.length : Int) (i : Int) obj0 e1 e0 = _
    unfold field_Check_2_0_B
    by_cases h : i < l.length
    · have h1 : decide ((i : Int) < (l.length : Int)) = true := by simp; omega
      have h2 : (decide (0 ≤ (i : Int)) && true) = true := by simp
      rw [h1, cond_true, chk_pos h2, Json.eta, find_obj0]
      have hw : IntKind.i64.wrap ((i : Int) + 1) = ((i + 1 : Nat) : Int) := by rw [wrap_id (by omega) (by omega)]; omega
      have hd : l.drop i = l[i] :: l.drop (i + 1) := by rw [List.drop_eq_getElem_cons h]
      have hg : l.getD (i : Int).toNat (Ty.dflt .fld) = l[i] := getD_at h _
      rw [hd, List.findIdx?_cons, hg, hw]
      have hk : (obj0.kind != 7) = false := rfl
      have hi' := ih (i + 1) (by omega) (by omega)
      rw [hk]
      simp only [cond_false, Bool.not_false, cond_true, need, hi']
      rcases Bool.eq_false_or_eq_true (l[i]).free with hf | hf
      · simp only [hf, Bool.not_true, cond_false]
        cases hq : (l.drop (i + 1)).findIdx? need with
        | none => rfl
        | some j =>
          show e0 ((i + 1 + j : Nat) : Int) = e0 ((i + (j + 1) : Nat) : Int)
          rw [show i + 1 + j = i + (j + 1) by omega]
      · simp [hf]
    · have h1 : decide ((i : Int) < (l.length : Int)) = false := by simp; omega
      rw [h1, cond_false, List.drop_eq_nil_of_le (by omega)]
      rfl

theorem check_obj0 {R : Type} (l : List Fld) (hl : l.length ≤ 1048576) (k : Int → Option R) :
    field_Check obj0 l k = k (match l.findIdx? need with | some j => (j : Int) | none => -1) := by
  show field_Check_2_0_L _ l (l.length : Int) ((0 : Nat) : Int) obj0 _ _ = _
  rw [check_loop l hl _ _ _ 0 (by omega) (by omega)]
  simp only [List.drop_zero, Nat.zero_add]
  cases l.findIdx? need <;> rfl

theorem want_loop {R : Type} (b : Bool) (l : List Fld) (hl : l.length ≤ 1048576) (e0 : Bool → Nat → Int → List Fld → Json → Option R) : ∀ (i n : Nat) (want : Int), i ≤ l.length → i < n →
    law05_FieldMissing_af93_6_0_L n b l.length want ((i : Int) - 1) l obj0 e0 = e0 b l.length (match (l.take i).findIdx? need with | some j => (j : Int) | none => want) l obj0 := by
  intro i
  induction i with
  | zero =>
    intro n want _ hn
    cases n with
    | zero => omega
    | succ n =>
      show law05_FieldMissing_af93_6_0_B _ b l.length want _ l obj0 e0 = _
      unfold law05_FieldMissing_af93_6_0_B
      rw [Json.eta]
      rfl
  | succ i ih =>
    intro n want hi hn
    cases n with
    | zero => omega
    | succ n =>
      show law05_FieldMissing_af93_6_0_B (fun a b c d f g => law05_FieldMissing_af93_6_0_L n a b c d f g e0) b l.length want _ l obj0 e0 = _
      unfold law05_FieldMissing_af93_6_0_B
      have h0 : ((i + 1 : Nat) : Int) - 1 = (i : Int) := by omega
      rw [h0]
      have h1 : decide ((i : Int) ≥ 0) = true := by simp
      have h2 : (true && decide ((i : Int) < l.length)) = true := by simp; omega
      have h3 : decide ((i : Int).toNat < l.length) = true := by simp; omega
      have hw : IntKind.i64.wrap ((i : Int) - 1) = (i : Int) - 1 := wrap_id (by omega) (by omega)
      have hg : l.getD (i : Int).toNat (Ty.dflt .fld) = l[i] := getD_at (by omega) _
      rw [h1, cond_true, chk_pos h2, chk_pos h3, hw, hg, Json.eta]
      have e1 := fun w => ih n w (by omega) (by omega)
      simp only [e1]
      have ht : l.take (i + 1) = l.take i ++ [l[i]] := by rw [List.take_add_one]; simp [show i < l.length by omega]
      rw [ht, List.findIdx?_append]
      cases hq : (l.take i).findIdx? need with
      | some j => cases (l[i]).free <;> simp
      | none =>
        cases hf : (l[i]).free with
        | true => simp [need, hf]
        | false => simp [need, hf, Nat.min_eq_left (show i ≤ l.length by omega)]

def freed (f : Fld) : Fld := ⟨f.name, f.kind, f.low, f.high, true⟩

theorem free_loop {R : Type} (b : Bool) (m : Nat) (hm : m ≤ 1048576) (e0 : Bool → Nat → List Fld → Json → Option R) : ∀ (n i : Nat) (l : List Fld), l.length = m → i ≤ m → m - i < n → (∀ f ∈ l.take i, f.free = true) →
    ∃ l' : List Fld, l'.length = m ∧ (∀ f ∈ l', f.free = true) ∧ law05_FieldMissing_af93_13_0_L n b m (i : Int) l obj0 e0 = e0 b m l' obj0 := by
  intro n
  induction n with
  | zero => intro i l _ _ h; omega
  | succ n ih =>
    intro i l hl hi hn hf
    by_cases h : i < m
    · have h1 : decide ((i : Int) < (m : Int)) = true := by simp; omega
      have h2 : (decide (0 ≤ (i : Int)) && true) = true := by simp
      have h3 : decide ((i : Int).toNat < l.length) = true := by simp; omega
      have hw : IntKind.i64.wrap ((i : Int) + 1) = ((i + 1 : Nat) : Int) := by rw [wrap_id (by omega) (by omega)]; omega
      obtain ⟨l', g1, g2, g3⟩ := ih (i + 1) (l.set i (freed (l.getD i (Ty.dflt .fld)))) (by simpa using hl) (by omega) (by omega) (by
        intro f hff
        rw [List.take_add_one] at hff
        rcases List.mem_append.1 hff with h' | h'
        · rw [List.take_set_of_le (Nat.le_refl _)] at h'
          exact hf f h'
        · simp [show i < l.length by omega] at h'
          subst h'
          rfl)
      refine ⟨l', g1, g2, ?_⟩
      show law05_FieldMissing_af93_13_0_B (fun a b c d f => law05_FieldMissing_af93_13_0_L n a b c d f e0) b m (i : Int) l obj0 e0 = _
      unfold law05_FieldMissing_af93_13_0_B
      rw [h1, cond_true, chk_pos h2, chk_pos h3, hw, Json.eta]
      exact g3
    · refine ⟨l, hl, fun f hff => hf f ?_, ?_⟩
      · rw [List.take_of_length_le (by omega)]; exact hff
      · show law05_FieldMissing_af93_13_0_B _ b m (i : Int) l obj0 e0 = _
        unfold law05_FieldMissing_af93_13_0_B
        have h1 : decide ((i : Int) < (m : Int)) = false := by simp; omega
        rw [h1, cond_false, Json.eta]

theorem law05_FieldMissing_true {R : Type} (l : List Fld) (k : Bool → Option R) : law05_FieldMissing_af93 l k = k true := by
  unfold law05_FieldMissing_af93 law05_FieldMissing_af93_X
  rw [law05_awake_true]
  have hs : ((l.drop 0).take ((min (l.length : Int) 8).toNat - 0)).length ≤ 8 := by simp; omega
  rw [chk_pos (by simp; omega), chk_pos (by simp; omega)]
  generalize (l.drop 0).take ((min (l.length : Int) 8).toNat - 0) = s at hs
  rw [chk_pos (by simp; omega), make_nil, Json.eta]
  rw [wrap_id (n := (s.length : Int) - 1) (by omega) (by omega)]
  rw [want_loop true s (by omega) _ s.length _ (-1) (Nat.le_refl _) (by omega)]
  simp only [Json.eta, List.take_length]
  rw [check_obj0 s (by omega)]
  have hne : ∀ z : Int, (z != z) = false := fun z => by simp
  rw [hne, cond_false]
  obtain ⟨s', g1, g2, g3⟩ := free_loop true s.length (by omega) (fun y21 y22 y23 y24 => bif y21 then (field_Check (⟨y24.kind, ⟨y24.num.mant, y24.num.exp⟩, y24.text, y24.names, y24.items⟩ : Json) y23 (fun y25 => k (y25 == (-1)))) else (k false)) (Int.natAbs 0 + List.length s + 3) 0 s rfl (by omega) (by omega) (by simp)
  refine Eq.trans g3 ?_
  simp only [cond_true, Json.eta]
  rw [check_obj0 s' (by omega)]
  have : s'.findIdx? need = none := by
    rw [List.findIdx?_eq_none_iff]
    intro f hf
    simp [need, g2 f hf]
  rw [this]
  rfl
end Go.Proofs.Ytcocpfgemdkkfaa

