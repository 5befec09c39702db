/-
  DecimalTells: for every input whose bulk is at most 1048576 the law returns true, and each argument reads behind the call as it read before; part 9 of 9 of the proof: an interpreter of the model's code over typed data, proved sound; the functions that the law reaches, printed as Lean functions and tied; the plain law. Own texts laid one behind the other.
-/
import Derived.Test.YtifgegmnngfckaaDoorDecimalTellsB8
set_option linter.unusedSimpArgs false
set_option linter.unnecessarySimpa false
set_option linter.unusedVariables false
set_option linter.unusedSectionVars false
/-
  Functions of the program as pure Lean functions, and the ties; printed by wip/tools/emit.py.
-/
set_option maxRecDepth 100000
set_option linter.unusedVariables false
namespace Go.Proofs.YtifgegmnngfckaaDoor
open Go Go.Yard

/-! ### humpyard/humpyardlaw01.DecimalTells -/
abbrev law01_DecimalTells_ty (R : Type) : Type := Int → Int → Str → Arr2 → Arr2 → (Bool → Option R) → Option R
abbrev law01_DecimalTells_p : List Pat := [.leaf (.int .i64), .leaf (.int .i64), .leaf (.str), .agg [.int .i64, .int .i64], .agg [.int .i64, .int .i64]]
abbrev law01_DecimalTells_q : List HPat := []
noncomputable def law01_DecimalTells_rr {R : Type} (fn : law01_DecimalTells_ty R) : Pat.dens law01_DecimalTells_p → HPat.dens law01_DecimalTells_q → (V → Heap → Option R) → Option R := fun x y k => fn x.1 x.2.1 x.2.2.1 (⟨x.2.2.2.1.1, x.2.2.2.1.2.1⟩ : Arr2) (⟨x.2.2.2.2.1.1, x.2.2.2.2.1.2.1⟩ : Arr2) (fun q0 => k (.bool q0) [])
abbrev law01_DecimalTells_12_0_ty (R : Type) : Type := Nat → (List Dec2) → Int → Int → (Option R) → (Bool → Option R) → Option R
noncomputable def law01_DecimalTells_E (R : Type) (law01_awake : law01_awake_ty R) (law01_Fit : law01_Fit_ty R) (decimal_Print : decimal_Print_ty R) (decimal_Parse : decimal_Parse_ty R) (decimal_Right : decimal_Right_ty R) (decimal_Make : decimal_Make_ty R) (decimal_Compare : decimal_Compare_ty R) (ref01_Make : ref01_Make_ty R) (ref01_Parse : ref01_Parse_ty R) (decimal_Add : decimal_Add_ty R) (ref01_Add : ref01_Add_ty R) (decimal_Int : decimal_Int_ty R) (ref01_Int : ref01_Int_ty R) (ref01_Right : ref01_Right_ty R) (ref01_Print : ref01_Print_ty R) (ref01_Compare : ref01_Compare_ty R) : Env R := fun i => match i with
  | 26 => some (true, (specBy law01_awake_p law01_awake_q (law01_awake_rr law01_awake) specNo))
  | 27 => some (true, (specBy law01_Fit_p law01_Fit_q (law01_Fit_rr law01_Fit) specNo))
  | 28 => some (true, (specBy decimal_Print_p decimal_Print_q (decimal_Print_rr decimal_Print) specNo))
  | 29 => some (true, (specBy decimal_Parse_p decimal_Parse_q (decimal_Parse_rr decimal_Parse) specNo))
  | 30 => some (true, (specBy decimal_Right_p decimal_Right_q (decimal_Right_rr decimal_Right) specNo))
  | 32 => some (true, (specBy decimal_Make_p decimal_Make_q (decimal_Make_rr decimal_Make) specNo))
  | 33 => some (true, (specBy decimal_Compare_p decimal_Compare_q (decimal_Compare_rr decimal_Compare) specNo))
  | 35 => some (true, (specBy ref01_Make_p ref01_Make_q (ref01_Make_rr ref01_Make) specNo))
  | 36 => some (true, (specBy ref01_Parse_p ref01_Parse_q (ref01_Parse_rr ref01_Parse) specNo))
  | 37 => some (true, (specBy decimal_Add_p decimal_Add_q (decimal_Add_rr decimal_Add) specNo))
  | 38 => some (true, (specBy ref01_Add_p ref01_Add_q (ref01_Add_rr ref01_Add) specNo))
  | 39 => some (true, (specBy decimal_Int_p decimal_Int_q (decimal_Int_rr decimal_Int) specNo))
  | 40 => some (true, (specBy ref01_Int_p ref01_Int_q (ref01_Int_rr ref01_Int) specNo))
  | 41 => some (true, (specBy ref01_Right_p ref01_Right_q (ref01_Right_rr ref01_Right) specNo))
  | 42 => some (true, (specBy ref01_Print_p ref01_Print_q (ref01_Print_rr ref01_Print) specNo))
  | 43 => some (true, (specBy ref01_Compare_p ref01_Compare_q (ref01_Compare_rr ref01_Compare) specNo))
  | _ => none
theorem law01_DecimalTells_EOk (R : Type) : EOk Tryd.prog (law01_DecimalTells_E R law01_awake law01_Fit decimal_Print decimal_Parse decimal_Right decimal_Make decimal_Compare ref01_Make ref01_Parse decimal_Add ref01_Add decimal_Int ref01_Int ref01_Right ref01_Print ref01_Compare) := by
  intro i b sp h
  unfold law01_DecimalTells_E at h
  split at h
  · cases h; exact ⟨(law01_awake_S_ok R _ (specNo_ok _)), fun h => nomatch h⟩
  · cases h; exact ⟨(law01_Fit_S_ok R _ (specNo_ok _)), fun h => nomatch h⟩
  · cases h; exact ⟨(decimal_Print_S_ok R _ (specNo_ok _)), fun h => nomatch h⟩
  · cases h; exact ⟨(decimal_Parse_S_ok R _ (specNo_ok _)), fun h => nomatch h⟩
  · cases h; exact ⟨(decimal_Right_S_ok R _ (specNo_ok _)), fun h => nomatch h⟩
  · cases h; exact ⟨(decimal_Make_S_ok R _ (specNo_ok _)), fun h => nomatch h⟩
  · cases h; exact ⟨(decimal_Compare_S_ok R _ (specNo_ok _)), fun h => nomatch h⟩
  · cases h; exact ⟨(ref01_Make_S_ok R _ (specNo_ok _)), fun h => nomatch h⟩
  · cases h; exact ⟨(ref01_Parse_S_ok R _ (specNo_ok _)), fun h => nomatch h⟩
  · cases h; exact ⟨(decimal_Add_S_ok R _ (specNo_ok _)), fun h => nomatch h⟩
  · cases h; exact ⟨(ref01_Add_S_ok R _ (specNo_ok _)), fun h => nomatch h⟩
  · cases h; exact ⟨(decimal_Int_S_ok R _ (specNo_ok _)), fun h => nomatch h⟩
  · cases h; exact ⟨(ref01_Int_S_ok R _ (specNo_ok _)), fun h => nomatch h⟩
  · cases h; exact ⟨(ref01_Right_S_ok R _ (specNo_ok _)), fun h => nomatch h⟩
  · cases h; exact ⟨(ref01_Print_S_ok R _ (specNo_ok _)), fun h => nomatch h⟩
  · cases h; exact ⟨(ref01_Compare_S_ok R _ (specNo_ok _)), fun h => nomatch h⟩
  · cases h

noncomputable def law01_DecimalTells_12_0_B {R : Type} (decimal_Print : decimal_Print_ty R) (decimal_Right : decimal_Right_ty R) (decimal_Compare : decimal_Compare_ty R) (decimal_Add : decimal_Add_ty R) (ref01_Add : ref01_Add_ty R) (decimal_Int : decimal_Int_ty R) (ref01_Int : ref01_Int_ty R) (ref01_Right : ref01_Right_ty R) (ref01_Print : ref01_Print_ty R) (ref01_Compare : ref01_Compare_ty R) (rec' : (List Dec2) → Int → Int → Option R) (x18 : List Dec2) (x19 : Int) (x20 : Int) (e0 : Option R) (e1 : Bool → Option R) : Option R :=
  bif (decide (x20 < x19)) then (chk (decide ((0 : Int) ≤ x20) && decide (x20 < x18.length)) (decimal_Add ((x18.getD x20.toNat (Ty.dflt .dec2)).a) ((x18.getD x20.toNat (Ty.dflt .dec2)).b) (fun y21 y22 => ref01_Add ((x18.getD x20.toNat (Ty.dflt .dec2)).a) ((x18.getD x20.toNat (Ty.dflt .dec2)).b) (fun y23 y24 => decimal_Int ((x18.getD x20.toNat (Ty.dflt .dec2)).a) (fun y25 y26 => ref01_Int ((x18.getD x20.toNat (Ty.dflt .dec2)).a) (fun y27 y28 => bif (!(y21.mant == y23.mant && (y21.exp == y23.exp && true))) then (e1 false) else (bif (!(y22 == y24)) then (e1 false) else (bif (y25 != y27) then (e1 false) else (bif (!(y26 == y28)) then (e1 false) else (decimal_Right ((x18.getD x20.toNat (Ty.dflt .dec2)).a) (fun y29 => ref01_Right ((x18.getD x20.toNat (Ty.dflt .dec2)).a) (fun y30 => bif (!(y29 == y30)) then (e1 false) else (decimal_Print ((x18.getD x20.toNat (Ty.dflt .dec2)).a) (fun y31 => ref01_Print ((x18.getD x20.toNat (Ty.dflt .dec2)).a) (fun y32 => bif (!(y31 == y32)) then (e1 false) else (decimal_Compare ((x18.getD x20.toNat (Ty.dflt .dec2)).a) ((x18.getD x20.toNat (Ty.dflt .dec2)).b) (fun y33 => ref01_Compare ((x18.getD x20.toNat (Ty.dflt .dec2)).a) ((x18.getD x20.toNat (Ty.dflt .dec2)).b) (fun y34 => bif (y33 != y34) then (e1 false) else (rec' x18 x19 (IntKind.i64.wrap (x20 + 1))))))))))))))))))))) else (e0)
noncomputable def law01_DecimalTells_12_0_L {R : Type} : law01_DecimalTells_12_0_ty R
  | 0, _, _, _, _, _ => none
  | n + 1, x0', x1', x2', e0, e1 => law01_DecimalTells_12_0_B decimal_Print decimal_Right decimal_Compare decimal_Add ref01_Add decimal_Int ref01_Int ref01_Right ref01_Print ref01_Compare (fun x0' x1' x2' => law01_DecimalTells_12_0_L n x0' x1' x2' e0 e1) x0' x1' x2' e0 e1
noncomputable def law01_DecimalTells_12_0_h : Hint := { live := [103, 104, 105], own := [], rows := [], cells := [], drop := [], out := [10] }
abbrev law01_DecimalTells_12_0_D : Type := (List Dec2) × Int × Int
noncomputable def law01_DecimalTells_12_0_enc : law01_DecimalTells_12_0_D → St := fun d => ⟨[.undef, .undef, .undef, .undef, .undef, .undef, .undef, .undef, .undef, .undef, .undef, .undef, .undef, .undef, .undef, .undef, .undef, .undef, .undef, .undef, .undef, .undef, .undef, .undef, .undef, .undef, .undef, .undef, .undef, .undef, .undef, .undef, .undef, .undef, .undef, .undef, .undef, .undef, .undef, .undef, .undef, .undef, .undef, .undef, .undef, .undef, .undef, .undef, .undef, .undef, .undef, .undef, .undef, .undef, .undef, .undef, .undef, .undef, .undef, .undef, .undef, .undef, .undef, .undef, .undef, .undef, .undef, .undef, .undef, .undef, .undef, .undef, .undef, .undef, .undef, .undef, .undef, .undef, .undef, .undef, .undef, .undef, .undef, .undef, .undef, .undef, .undef, .undef, .undef, .undef, .undef, .undef, .undef, .undef, .undef, .undef, .undef, .undef, .undef, .undef, .undef, .undef, .undef, .sl .dec2 d.1 (.own 0), .int .i64 d.2.1, .int .i64 d.2.2, .undef, .undef, .undef, .undef, .undef, .undef, .undef, .undef, .undef, .undef, .undef, .undef, .undef, .undef, .undef, .undef, .undef, .undef, .undef, .undef, .undef, .undef, .undef, .undef, .undef, .undef, .undef, .undef, .undef, .undef, .undef, .undef, .undef, .undef, .undef, .undef, .undef, .undef, .undef, .undef, .undef, .undef, .undef, .undef, .undef, .undef, .undef, .undef, .undef, .undef, .undef, .undef, .undef, .undef, .undef, .undef, .undef, .undef, .undef, .undef, .undef, .undef, .undef, .undef, .undef, .undef, .undef, .undef, .undef, .undef, .undef, .undef, .undef, .undef, .undef, .undef, .undef, .undef, .undef, .undef, .undef], [.tok]⟩
noncomputable def law01_DecimalTells_12_0_x0 {R : Type} (K : Ex → St → Option R) : Option R := K (.exit 0) ⟨[.undef, .undef, .undef, .undef, .undef, .undef, .undef, .undef, .undef, .undef, .undef, .undef, .undef, .undef, .undef, .undef, .undef, .undef, .undef, .undef, .undef, .undef, .undef, .undef, .undef, .undef, .undef, .undef, .undef, .undef, .undef, .undef, .undef, .undef, .undef, .undef, .undef, .undef, .undef, .undef, .undef, .undef, .undef, .undef, .undef, .undef, .undef, .undef, .undef, .undef, .undef, .undef, .undef, .undef, .undef, .undef, .undef, .undef, .undef, .undef, .undef, .undef, .undef, .undef, .undef, .undef, .undef, .undef, .undef, .undef, .undef, .undef, .undef, .undef, .undef, .undef, .undef, .undef, .undef, .undef, .undef, .undef, .undef, .undef, .undef, .undef, .undef, .undef, .undef, .undef, .undef, .undef, .undef, .undef, .undef, .undef, .undef, .undef, .undef, .undef, .undef, .undef, .undef, .undef, .undef, .undef, .undef, .undef, .undef, .undef, .undef, .undef, .undef, .undef, .undef, .undef, .undef, .undef, .undef, .undef, .undef, .undef, .undef, .undef, .undef, .undef, .undef, .undef, .undef, .undef, .undef, .undef, .undef, .undef, .undef, .undef, .undef, .undef, .undef, .undef, .undef, .undef, .undef, .undef, .undef, .undef, .undef, .undef, .undef, .undef, .undef, .undef, .undef, .undef, .undef, .undef, .undef, .undef, .undef, .undef, .undef, .undef, .undef, .undef, .undef, .undef, .undef, .undef, .undef, .undef, .undef, .undef, .undef, .undef, .undef, .undef, .undef, .undef, .undef, .undef, .undef, .undef, .undef, .undef, .undef, .undef, .undef], []⟩
noncomputable def law01_DecimalTells_12_0_x1 {R : Type} (K : Ex → St → Option R) (q0 : Bool) : Option R := K (.ret) ⟨[.undef, .undef, .undef, .undef, .undef, .undef, .undef, .undef, .undef, .undef, .bool q0, .undef, .undef, .undef, .undef, .undef, .undef, .undef, .undef, .undef, .undef, .undef, .undef, .undef, .undef, .undef, .undef, .undef, .undef, .undef, .undef, .undef, .undef, .undef, .undef, .undef, .undef, .undef, .undef, .undef, .undef, .undef, .undef, .undef, .undef, .undef, .undef, .undef, .undef, .undef, .undef, .undef, .undef, .undef, .undef, .undef, .undef, .undef, .undef, .undef, .undef, .undef, .undef, .undef, .undef, .undef, .undef, .undef, .undef, .undef, .undef, .undef, .undef, .undef, .undef, .undef, .undef, .undef, .undef, .undef, .undef, .undef, .undef, .undef, .undef, .undef, .undef, .undef, .undef, .undef, .undef, .undef, .undef, .undef, .undef, .undef, .undef, .undef, .undef, .undef, .undef, .undef, .undef, .undef, .undef, .undef, .undef, .undef, .undef, .undef, .undef, .undef, .undef, .undef, .undef, .undef, .undef, .undef, .undef, .undef, .undef, .undef, .undef, .undef, .undef, .undef, .undef, .undef, .undef, .undef, .undef, .undef, .undef, .undef, .undef, .undef, .undef, .undef, .undef, .undef, .undef, .undef, .undef, .undef, .undef, .undef, .undef, .undef, .undef, .undef, .undef, .undef, .undef, .undef, .undef, .undef, .undef, .undef, .undef, .undef, .undef, .undef, .undef, .undef, .undef, .undef, .undef, .undef, .undef, .undef, .undef, .undef, .undef, .undef, .undef, .undef, .undef, .undef, .undef, .undef, .undef, .undef, .undef, .undef, .undef, .undef, .undef], []⟩
noncomputable def law01_DecimalTells_12_0_s {R : Type} (decimal_Print : decimal_Print_ty R) (decimal_Right : decimal_Right_ty R) (decimal_Compare : decimal_Compare_ty R) (decimal_Add : decimal_Add_ty R) (ref01_Add : ref01_Add_ty R) (decimal_Int : decimal_Int_ty R) (ref01_Int : ref01_Int_ty R) (ref01_Right : ref01_Right_ty R) (ref01_Print : ref01_Print_ty R) (ref01_Compare : ref01_Compare_ty R) (K : Ex → St → Option R) (rc : law01_DecimalTells_12_0_D → Option R) (d : law01_DecimalTells_12_0_D) : Option R := law01_DecimalTells_12_0_B decimal_Print decimal_Right decimal_Compare decimal_Add ref01_Add decimal_Int ref01_Int ref01_Right ref01_Print ref01_Compare (fun z0 z1 z2 => rc (z0, z1, z2)) d.1 d.2.1 d.2.2 (law01_DecimalTells_12_0_x0 K) (law01_DecimalTells_12_0_x1 K)
noncomputable def law01_DecimalTells_12_0_A {R : Type} (K : Ex → St → Option R) (n : Nat) (d : law01_DecimalTells_12_0_D) : Option R := law01_DecimalTells_12_0_L n d.1 d.2.1 d.2.2 (law01_DecimalTells_12_0_x0 K) (law01_DecimalTells_12_0_x1 K)
abbrev law01_DecimalTells_12_0_p : List Pat := [.leaf (.undef), .leaf (.undef), .leaf (.undef), .leaf (.undef), .leaf (.undef), .leaf (.undef), .leaf (.undef), .leaf (.undef), .leaf (.undef), .leaf (.undef), .leaf (.undef), .leaf (.undef), .leaf (.undef), .leaf (.undef), .leaf (.undef), .leaf (.undef), .leaf (.undef), .leaf (.undef), .leaf (.undef), .leaf (.undef), .leaf (.undef), .leaf (.undef), .leaf (.undef), .leaf (.undef), .leaf (.undef), .leaf (.undef), .leaf (.undef), .leaf (.undef), .leaf (.undef), .leaf (.undef), .leaf (.undef), .leaf (.undef), .leaf (.undef), .leaf (.undef), .leaf (.undef), .leaf (.undef), .leaf (.undef), .leaf (.undef), .leaf (.undef), .leaf (.undef), .leaf (.undef), .leaf (.undef), .leaf (.undef), .leaf (.undef), .leaf (.undef), .leaf (.undef), .leaf (.undef), .leaf (.undef), .leaf (.undef), .leaf (.undef), .leaf (.undef), .leaf (.undef), .leaf (.undef), .leaf (.undef), .leaf (.undef), .leaf (.undef), .leaf (.undef), .leaf (.undef), .leaf (.undef), .leaf (.undef), .leaf (.undef), .leaf (.undef), .leaf (.undef), .leaf (.undef), .leaf (.undef), .leaf (.undef), .leaf (.undef), .leaf (.undef), .leaf (.undef), .leaf (.undef), .leaf (.undef), .leaf (.undef), .leaf (.undef), .leaf (.undef), .leaf (.undef), .leaf (.undef), .leaf (.undef), .leaf (.undef), .leaf (.undef), .leaf (.undef), .leaf (.undef), .leaf (.undef), .leaf (.undef), .leaf (.undef), .leaf (.undef), .leaf (.undef), .leaf (.undef), .leaf (.undef), .leaf (.undef), .leaf (.undef), .leaf (.undef), .leaf (.undef), .leaf (.undef), .leaf (.undef), .leaf (.undef), .leaf (.undef), .leaf (.undef), .leaf (.undef), .leaf (.undef), .leaf (.undef), .leaf (.undef), .leaf (.undef), .leaf (.undef), .leaf (.slo .dec2 0), .leaf (.int .i64), .leaf (.int .i64), .leaf (.undef), .leaf (.undef), .leaf (.undef), .leaf (.undef), .leaf (.undef), .leaf (.undef), .leaf (.undef), .leaf (.undef), .leaf (.undef), .leaf (.undef), .leaf (.undef), .leaf (.undef), .leaf (.undef), .leaf (.undef), .leaf (.undef), .leaf (.undef), .leaf (.undef), .leaf (.undef), .leaf (.undef), .leaf (.undef), .leaf (.undef), .leaf (.undef), .leaf (.undef), .leaf (.undef), .leaf (.undef), .leaf (.undef), .leaf (.undef), .leaf (.undef), .leaf (.undef), .leaf (.undef), .leaf (.undef), .leaf (.undef), .leaf (.undef), .leaf (.undef), .leaf (.undef), .leaf (.undef), .leaf (.undef), .leaf (.undef), .leaf (.undef), .leaf (.undef), .leaf (.undef), .leaf (.undef), .leaf (.undef), .leaf (.undef), .leaf (.undef), .leaf (.undef), .leaf (.undef), .leaf (.undef), .leaf (.undef), .leaf (.undef), .leaf (.undef), .leaf (.undef), .leaf (.undef), .leaf (.undef), .leaf (.undef), .leaf (.undef), .leaf (.undef), .leaf (.undef), .leaf (.undef), .leaf (.undef), .leaf (.undef), .leaf (.undef), .leaf (.undef), .leaf (.undef), .leaf (.undef), .leaf (.undef), .leaf (.undef), .leaf (.undef), .leaf (.undef), .leaf (.undef), .leaf (.undef), .leaf (.undef), .leaf (.undef), .leaf (.undef), .leaf (.undef), .leaf (.undef), .leaf (.undef), .leaf (.undef), .leaf (.undef), .leaf (.undef), .leaf (.undef)]
abbrev law01_DecimalTells_12_0_q : List HPat := [.tok]
noncomputable def law01_DecimalTells_12_0_f (x : Pat.dens law01_DecimalTells_12_0_p) (y : HPat.dens law01_DecimalTells_12_0_q) : Nat := (List.length x.2.2.2.2.2.2.2.2.2.2.2.2.2.2.2.2.2.2.2.2.2.2.2.2.2.2.2.2.2.2.2.2.2.2.2.2.2.2.2.2.2.2.2.2.2.2.2.2.2.2.2.2.2.2.2.2.2.2.2.2.2.2.2.2.2.2.2.2.2.2.2.2.2.2.2.2.2.2.2.2.2.2.2.2.2.2.2.2.2.2.2.2.2.2.2.2.2.2.2.2.2.2.2.1 + Int.natAbs x.2.2.2.2.2.2.2.2.2.2.2.2.2.2.2.2.2.2.2.2.2.2.2.2.2.2.2.2.2.2.2.2.2.2.2.2.2.2.2.2.2.2.2.2.2.2.2.2.2.2.2.2.2.2.2.2.2.2.2.2.2.2.2.2.2.2.2.2.2.2.2.2.2.2.2.2.2.2.2.2.2.2.2.2.2.2.2.2.2.2.2.2.2.2.2.2.2.2.2.2.2.2.2.2.1 + Int.natAbs x.2.2.2.2.2.2.2.2.2.2.2.2.2.2.2.2.2.2.2.2.2.2.2.2.2.2.2.2.2.2.2.2.2.2.2.2.2.2.2.2.2.2.2.2.2.2.2.2.2.2.2.2.2.2.2.2.2.2.2.2.2.2.2.2.2.2.2.2.2.2.2.2.2.2.2.2.2.2.2.2.2.2.2.2.2.2.2.2.2.2.2.2.2.2.2.2.2.2.2.2.2.2.2.2.2.1 + 64)
noncomputable def law01_DecimalTells_12_0_d (x : Pat.dens law01_DecimalTells_12_0_p) (y : HPat.dens law01_DecimalTells_12_0_q) : law01_DecimalTells_12_0_D := (x.2.2.2.2.2.2.2.2.2.2.2.2.2.2.2.2.2.2.2.2.2.2.2.2.2.2.2.2.2.2.2.2.2.2.2.2.2.2.2.2.2.2.2.2.2.2.2.2.2.2.2.2.2.2.2.2.2.2.2.2.2.2.2.2.2.2.2.2.2.2.2.2.2.2.2.2.2.2.2.2.2.2.2.2.2.2.2.2.2.2.2.2.2.2.2.2.2.2.2.2.2.2.2.1, x.2.2.2.2.2.2.2.2.2.2.2.2.2.2.2.2.2.2.2.2.2.2.2.2.2.2.2.2.2.2.2.2.2.2.2.2.2.2.2.2.2.2.2.2.2.2.2.2.2.2.2.2.2.2.2.2.2.2.2.2.2.2.2.2.2.2.2.2.2.2.2.2.2.2.2.2.2.2.2.2.2.2.2.2.2.2.2.2.2.2.2.2.2.2.2.2.2.2.2.2.2.2.2.2.1, x.2.2.2.2.2.2.2.2.2.2.2.2.2.2.2.2.2.2.2.2.2.2.2.2.2.2.2.2.2.2.2.2.2.2.2.2.2.2.2.2.2.2.2.2.2.2.2.2.2.2.2.2.2.2.2.2.2.2.2.2.2.2.2.2.2.2.2.2.2.2.2.2.2.2.2.2.2.2.2.2.2.2.2.2.2.2.2.2.2.2.2.2.2.2.2.2.2.2.2.2.2.2.2.2.2.1)
noncomputable def law01_DecimalTells_12_0_rr {R : Type} (L : law01_DecimalTells_12_0_ty R) : Pat.dens law01_DecimalTells_12_0_p → HPat.dens law01_DecimalTells_12_0_q → (Ex → St → Option R) → Option R := fun x y K => L (law01_DecimalTells_12_0_f x y) x.2.2.2.2.2.2.2.2.2.2.2.2.2.2.2.2.2.2.2.2.2.2.2.2.2.2.2.2.2.2.2.2.2.2.2.2.2.2.2.2.2.2.2.2.2.2.2.2.2.2.2.2.2.2.2.2.2.2.2.2.2.2.2.2.2.2.2.2.2.2.2.2.2.2.2.2.2.2.2.2.2.2.2.2.2.2.2.2.2.2.2.2.2.2.2.2.2.2.2.2.2.2.2.1 x.2.2.2.2.2.2.2.2.2.2.2.2.2.2.2.2.2.2.2.2.2.2.2.2.2.2.2.2.2.2.2.2.2.2.2.2.2.2.2.2.2.2.2.2.2.2.2.2.2.2.2.2.2.2.2.2.2.2.2.2.2.2.2.2.2.2.2.2.2.2.2.2.2.2.2.2.2.2.2.2.2.2.2.2.2.2.2.2.2.2.2.2.2.2.2.2.2.2.2.2.2.2.2.2.1 x.2.2.2.2.2.2.2.2.2.2.2.2.2.2.2.2.2.2.2.2.2.2.2.2.2.2.2.2.2.2.2.2.2.2.2.2.2.2.2.2.2.2.2.2.2.2.2.2.2.2.2.2.2.2.2.2.2.2.2.2.2.2.2.2.2.2.2.2.2.2.2.2.2.2.2.2.2.2.2.2.2.2.2.2.2.2.2.2.2.2.2.2.2.2.2.2.2.2.2.2.2.2.2.2.2.1 (law01_DecimalTells_12_0_x0 K) (law01_DecimalTells_12_0_x1 K)
noncomputable def law01_DecimalTells_T (R : Type) (law01_DecimalTells_12_0_L : law01_DecimalTells_12_0_ty R) : Nat → Option (Hint × LSpec R) := fun i => match i with
  | 12 => some (law01_DecimalTells_12_0_h, (loopBy law01_DecimalTells_12_0_p law01_DecimalTells_12_0_q (law01_DecimalTells_12_0_rr law01_DecimalTells_12_0_L) loopNo))
  | _ => none

theorem law01_DecimalTells_12_0_B_ok {R : Type} (law01_awake : law01_awake_ty R) (law01_Fit : law01_Fit_ty R) (decimal_Print : decimal_Print_ty R) (decimal_Parse : decimal_Parse_ty R) (decimal_Right : decimal_Right_ty R) (decimal_Make : decimal_Make_ty R) (decimal_Compare : decimal_Compare_ty R) (ref01_Make : ref01_Make_ty R) (ref01_Parse : ref01_Parse_ty R) (decimal_Add : decimal_Add_ty R) (ref01_Add : ref01_Add_ty R) (decimal_Int : decimal_Int_ty R) (ref01_Int : ref01_Int_ty R) (ref01_Right : ref01_Right_ty R) (ref01_Print : ref01_Print_ty R) (ref01_Compare : ref01_Compare_ty R) (law01_DecimalTells_12_0_L : law01_DecimalTells_12_0_ty R) (K : Ex → St → Option R) (rc : St → Option R) (d : law01_DecimalTells_12_0_D) : roundOf tt (law01_DecimalTells_E R law01_awake law01_Fit decimal_Print decimal_Parse decimal_Right decimal_Make decimal_Compare ref01_Make ref01_Parse decimal_Add ref01_Add decimal_Int ref01_Int ref01_Right ref01_Print ref01_Compare) (law01_DecimalTells_T R law01_DecimalTells_12_0_L) 0 ((loopsOf (codeOf Tryd.f15)).getD 0 .skip) law01_DecimalTells_12_0_h (law01_DecimalTells_12_0_enc d) rc K = law01_DecimalTells_12_0_s decimal_Print decimal_Right decimal_Compare decimal_Add ref01_Add decimal_Int ref01_Int ref01_Right ref01_Print ref01_Compare K (fun d => rc (law01_DecimalTells_12_0_enc d)) d := by kernel_rfl
theorem law01_DecimalTells_12_0_A_succ {R : Type} (K : Ex → St → Option R) (n : Nat) (d : law01_DecimalTells_12_0_D) : law01_DecimalTells_12_0_A K (n + 1) d = law01_DecimalTells_12_0_s decimal_Print decimal_Right decimal_Compare decimal_Add ref01_Add decimal_Int ref01_Int ref01_Right ref01_Print ref01_Compare K (law01_DecimalTells_12_0_A K n) d := by kernel_rfl
theorem law01_DecimalTells_12_0_A_zero {R : Type} (K : Ex → St → Option R) (d : law01_DecimalTells_12_0_D) : law01_DecimalTells_12_0_A K 0 d = none := by kernel_rfl
theorem law01_DecimalTells_12_0_e_ok (x : Pat.dens law01_DecimalTells_12_0_p) (y : HPat.dens law01_DecimalTells_12_0_q) : (⟨Pat.encL law01_DecimalTells_12_0_p x, HPat.encL law01_DecimalTells_12_0_q y⟩ : St) = law01_DecimalTells_12_0_enc (law01_DecimalTells_12_0_d x y) := by kernel_rfl
theorem law01_DecimalTells_12_0_r_ok {R : Type} (x : Pat.dens law01_DecimalTells_12_0_p) (y : HPat.dens law01_DecimalTells_12_0_q) (K : Ex → St → Option R) : law01_DecimalTells_12_0_rr (law01_DecimalTells_12_0_L) x y K = law01_DecimalTells_12_0_A K (law01_DecimalTells_12_0_f x y) (law01_DecimalTells_12_0_d x y) := by kernel_rfl
theorem law01_DecimalTells_12_0_ok {R : Type} (other : LSpec R) (ho : LsOk tt (law01_DecimalTells_E R law01_awake law01_Fit decimal_Print decimal_Parse decimal_Right decimal_Make decimal_Compare ref01_Make ref01_Parse decimal_Add ref01_Add decimal_Int ref01_Int ref01_Right ref01_Print ref01_Compare) (law01_DecimalTells_T R law01_DecimalTells_12_0_L) 0 ((loopsOf (codeOf Tryd.f15)).getD 0 .skip) law01_DecimalTells_12_0_h other) : LsOk tt (law01_DecimalTells_E R law01_awake law01_Fit decimal_Print decimal_Parse decimal_Right decimal_Make decimal_Compare ref01_Make ref01_Parse decimal_Add ref01_Add decimal_Int ref01_Int ref01_Right ref01_Print ref01_Compare) (law01_DecimalTells_T R law01_DecimalTells_12_0_L) 0 ((loopsOf (codeOf Tryd.f15)).getD 0 .skip) law01_DecimalTells_12_0_h (loopBy law01_DecimalTells_12_0_p law01_DecimalTells_12_0_q (law01_DecimalTells_12_0_rr (law01_DecimalTells_12_0_L)) other) :=
  loopBy_tie (A := law01_DecimalTells_12_0_A) ho (loop_tie law01_DecimalTells_12_0_enc (law01_DecimalTells_12_0_s decimal_Print decimal_Right decimal_Compare decimal_Add ref01_Add decimal_Int ref01_Int ref01_Right ref01_Print ref01_Compare) (law01_DecimalTells_12_0_A) (law01_DecimalTells_12_0_A_zero) (law01_DecimalTells_12_0_B_ok law01_awake law01_Fit decimal_Print decimal_Parse decimal_Right decimal_Make decimal_Compare ref01_Make ref01_Parse decimal_Add ref01_Add decimal_Int ref01_Int ref01_Right ref01_Print ref01_Compare law01_DecimalTells_12_0_L) (law01_DecimalTells_12_0_A_succ)) law01_DecimalTells_12_0_f law01_DecimalTells_12_0_d law01_DecimalTells_12_0_e_ok (law01_DecimalTells_12_0_r_ok)

noncomputable def law01_DecimalTells_X {R : Type} (law01_awake : law01_awake_ty R) (law01_Fit : law01_Fit_ty R) (decimal_Parse : decimal_Parse_ty R) (decimal_Make : decimal_Make_ty R) (ref01_Make : ref01_Make_ty R) (ref01_Parse : ref01_Parse_ty R) (law01_DecimalTells_12_0_L : law01_DecimalTells_12_0_ty R) (x1 : Int) (x2 : Int) (x3 : Str) (x4 : Arr2) (x5 : Arr2) (k0 : Bool → Option R) : Option R :=
  law01_awake (fun y6 => decimal_Make x1 x2 (fun y7 y8 => ref01_Make x1 x2 (fun y9 y10 => decimal_Parse x3 (fun y11 y12 => ref01_Parse x3 (fun y13 y14 => bif (!y6) then (k0 false) else (bif (!(y7.mant == y9.mant && (y7.exp == y9.exp && true))) then (k0 false) else (bif (!(y8 == y10)) then (k0 false) else (bif (!(y11.mant == y13.mant && (y11.exp == y13.exp && true))) then (k0 false) else (bif (!(y12 == y14)) then (k0 false) else (law01_Fit x4.a x4.b (fun y16 => law01_Fit x5.a x5.b (fun y17 => law01_DecimalTells_12_0_L (List.length ([(⟨⟨y16.mant, y16.exp⟩, ⟨y17.mant, y17.exp⟩⟩ : Dec2), (⟨⟨x1, x2⟩, ⟨y17.mant, y17.exp⟩⟩ : Dec2), (⟨⟨y17.mant, y17.exp⟩, ⟨x1, x2⟩⟩ : Dec2), (⟨⟨y7.mant, y7.exp⟩, ⟨y16.mant, y16.exp⟩⟩ : Dec2)] : List Dec2) + Int.natAbs 4 + Int.natAbs 0 + 64) ([(⟨⟨y16.mant, y16.exp⟩, ⟨y17.mant, y17.exp⟩⟩ : Dec2), (⟨⟨x1, x2⟩, ⟨y17.mant, y17.exp⟩⟩ : Dec2), (⟨⟨y17.mant, y17.exp⟩, ⟨x1, x2⟩⟩ : Dec2), (⟨⟨y7.mant, y7.exp⟩, ⟨y16.mant, y16.exp⟩⟩ : Dec2)] : List Dec2) 4 0 (k0 true) (fun y36 => k0 y36)))))))))))))
noncomputable def law01_DecimalTells {R : Type} : law01_DecimalTells_ty R := fun x1 x2 x3 x4 x5 k0 => law01_DecimalTells_X law01_awake law01_Fit decimal_Parse decimal_Make ref01_Make ref01_Parse law01_DecimalTells_12_0_L x1 x2 x3 x4 x5 k0
theorem law01_DecimalTells_ok {R : Type} (law01_awake : law01_awake_ty R) (law01_Fit : law01_Fit_ty R) (decimal_Print : decimal_Print_ty R) (decimal_Parse : decimal_Parse_ty R) (decimal_Right : decimal_Right_ty R) (decimal_Make : decimal_Make_ty R) (decimal_Compare : decimal_Compare_ty R) (ref01_Make : ref01_Make_ty R) (ref01_Parse : ref01_Parse_ty R) (decimal_Add : decimal_Add_ty R) (ref01_Add : ref01_Add_ty R) (decimal_Int : decimal_Int_ty R) (ref01_Int : ref01_Int_ty R) (ref01_Right : ref01_Right_ty R) (ref01_Print : ref01_Print_ty R) (ref01_Compare : ref01_Compare_ty R) (law01_DecimalTells_12_0_L : law01_DecimalTells_12_0_ty R) (x1 : Int) (x2 : Int) (x3 : Str) (x4 : Arr2) (x5 : Arr2) (k : V → Heap → Option R) : funK tt (law01_DecimalTells_E R law01_awake law01_Fit decimal_Print decimal_Parse decimal_Right decimal_Make decimal_Compare ref01_Make ref01_Parse decimal_Add ref01_Add decimal_Int ref01_Int ref01_Right ref01_Print ref01_Compare) (law01_DecimalTells_T R law01_DecimalTells_12_0_L) false Tryd.f15 (codeOf Tryd.f15) [.int .i64 x1, .int .i64 x2, .str x3, .agg [.int .i64 x4.a, .int .i64 x4.b], .agg [.int .i64 x5.a, .int .i64 x5.b]] [] k =
    law01_DecimalTells_X law01_awake law01_Fit decimal_Parse decimal_Make ref01_Make ref01_Parse law01_DecimalTells_12_0_L x1 x2 x3 x4 x5 (fun q0 => k (.bool q0) []) := by kernel_rfl
theorem law01_DecimalTells_loops (R : Type) : ∀ a ∈ loopsOf (codeOf Tryd.f15), LoopOk tt (law01_DecimalTells_E R law01_awake law01_Fit decimal_Print decimal_Parse decimal_Right decimal_Make decimal_Compare ref01_Make ref01_Parse decimal_Add ref01_Add decimal_Int ref01_Int ref01_Right ref01_Print ref01_Compare) (law01_DecimalTells_T R law01_DecimalTells_12_0_L) 0 a := by
  refine loops_ok 1 (by kernel_rfl) fun i hi => ?_
  match i, hi with
  | 0, _ => exact loopOk_some (by kernel_rfl) (law01_DecimalTells_12_0_ok _ loopNo_ok)
  | n + 1, hi => omega
theorem law01_DecimalTells_S_ok (R : Type) (other : Yard.Spec R) (ho : Yard.Spec.Ok Tryd.prog 15 other) : Yard.Spec.Ok Tryd.prog 15 (specBy law01_DecimalTells_p law01_DecimalTells_q (law01_DecimalTells_rr law01_DecimalTells) other) :=
  specBy_ok ho (funK_sound TT mixed (law01_DecimalTells_EOk R) (keep := false) rfl rfl rfl rfl 0 (law01_DecimalTells_loops R)) fun (x : Pat.dens law01_DecimalTells_p) (y : HPat.dens law01_DecimalTells_q) k => law01_DecimalTells_ok law01_awake law01_Fit decimal_Print decimal_Parse decimal_Right decimal_Make decimal_Compare ref01_Make ref01_Parse decimal_Add ref01_Add decimal_Int ref01_Int ref01_Right ref01_Print ref01_Compare law01_DecimalTells_12_0_L x.1 x.2.1 x.2.2.1 (⟨x.2.2.2.1.1, x.2.2.2.1.2.1⟩ : Arr2) (⟨x.2.2.2.2.1.1, x.2.2.2.2.1.2.1⟩ : Arr2) k

end Go.Proofs.YtifgegmnngfckaaDoor

set_option linter.unusedVariables false
set_option maxRecDepth 100000
namespace Go.Proofs.YtifgegmnngfckaaDoor
open Go Go.Yard Go.Lib

def shiftQ : Int → Nat → Option Int
  | m, 0 => some m
  | m, j + 1 => if -288230376151711744 ≤ m ∧ m ≤ 288230376151711744 then shiftQ (10 * m) j else none
theorem shiftPQ : ∀ (j : Nat) (m v : Int), shiftP m j = some v → shiftQ m j = some v
  | 0, m, v, h => h
  | j + 1, m, v, h => by
    simp only [shiftP] at h
    simp only [shiftQ]
    split at h
    · rw [if_pos (by omega), Int.mul_comm]
      exact shiftPQ j _ _ h
    · cases h
theorem shiftQ_val : ∀ (j : Nat) (m v : Int), shiftQ m j = some v → v = m * 10 ^ j
  | 0, m, v, h => by cases h; simp
  | j + 1, m, v, h => by
    simp only [shiftQ] at h
    split at h
    · rw [shiftQ_val j _ _ h, Int.pow_succ, Int.mul_comm 10, Int.mul_assoc, Int.mul_comm 10]
    · cases h
theorem shiftQ_le : ∀ (j : Nat) (m v : Int), shiftQ m j = some v → m.natAbs ≤ 2882303761517117440 → v.natAbs ≤ 2882303761517117440
  | 0, m, v, h, hm => by cases h; exact hm
  | j + 1, m, v, h, hm => by
    simp only [shiftQ] at h
    split at h
    · exact shiftQ_le j _ _ h (by omega)
    · cases h
theorem shift_part : ∀ (j : Nat) (m v : Int), shiftP m j = none → shiftQ m j = some v → 1000000000000000000 < v.natAbs ∧ Int.tmod v 10 = 0 ∧ 0 < j
  | 0, m, v, h, _ => by cases h
  | j + 1, m, v, h, hq => by
    have hv := shiftQ_val (j + 1) m v hq
    have ht : Int.tmod v 10 = 0 := by rw [hv, Int.pow_succ, ← Int.mul_assoc]; exact Int.mul_tmod_left _ _
    simp only [shiftP] at h
    by_cases hm : -100000000000000000 ≤ m ∧ m ≤ 100000000000000000
    · rw [if_pos hm, Int.mul_comm] at h
      simp only [shiftQ] at hq
      rw [if_pos (by omega)] at hq
      exact ⟨(shift_part j _ _ h hq).1, ht, by omega⟩
    · refine ⟨?_, ht, by omega⟩
      have hp := abs_le_mul (m * 10) j
      have e : v = m * 10 * 10 ^ j := by rw [hv, Int.pow_succ, Int.mul_comm (10 ^ j), Int.mul_assoc]
      rw [← e] at hp
      omega

theorem refAdd13 {R : Type} (ex : Int) (y : Int) (a b z : Dcm) (ha : a.exp ≤ 1000) (hex : -1000 ≤ ex) (e0 : Int → Int → Int → Dcm → Dcm → Option R) (e1 : Bool → Int → Int → Int → Dcm → Dcm → Option R) : ∀ (n i : Nat) (m : Int), (a.exp - ex).toNat - i < n → ex + (i : Int) ≤ max ex a.exp → m.natAbs ≤ 2882303761517117440 →
    match shiftQ m ((a.exp - ex).toNat - i) with
    | some v => ref01_Add_13_0_L n ex m y (ex + (i : Int)) a b z e0 e1 = e0 ex v y b z
    | none => ∃ w, ref01_Add_13_0_L n ex m y (ex + (i : Int)) a b z e0 e1 = e1 false ex w y b ⟨0, 0⟩ := by
  intro n
  induction n with
  | zero => intro i m h; omega
  | succ n ih =>
    intro i m h1 h2 hm
    rw [ref01_Add_13_0_L]
    unfold ref01_Add_13_0_B
    by_cases hlt : ex + (i : Int) < a.exp
    · have ej : (a.exp - ex).toNat - i = ((a.exp - ex).toNat - (i + 1)) + 1 := by omega
      rw [dtrue hlt, cond_true, ej]
      simp only [shiftQ]
      by_cases c1 : m > 288230376151711744
      · rw [dtrue c1, cond_true, if_neg (by omega)]
        exact ⟨_, rfl⟩
      · rw [dfalse c1, cond_false]
        by_cases c2 : m < -288230376151711744
        · rw [dtrue c2, cond_true, if_neg (by omega)]
          exact ⟨_, rfl⟩
        · rw [dfalse c2, cond_false, if_pos (by omega), wrap_id (n := 10 * m) (by omega) (by omega), wrap_id (n := ex + (i : Int) + 1) (by omega) (by omega)]
          have e2 : ex + (i : Int) + 1 = ex + ((i + 1 : Nat) : Int) := by omega
          rw [e2]
          exact ih (i + 1) (10 * m) (by omega) (by omega) (by omega)
    · have ej : (a.exp - ex).toNat - i = 0 := by omega
      rw [dfalse hlt, cond_false, ej]
      rfl

theorem refAdd19 {R : Type} (ex : Int) (x : Int) (b z : Dcm) (hb : b.exp ≤ 1000) (hex : -1000 ≤ ex) (e0 : Int → Int → Int → Dcm → Option R) (e1 : Bool → Int → Int → Int → Dcm → Option R) : ∀ (n i : Nat) (m : Int), (b.exp - ex).toNat - i < n → ex + (i : Int) ≤ max ex b.exp → m.natAbs ≤ 2882303761517117440 →
    match shiftQ m ((b.exp - ex).toNat - i) with
    | some v => ref01_Add_19_0_L n ex x m (ex + (i : Int)) b z e0 e1 = e0 ex x v z
    | none => ∃ w, ref01_Add_19_0_L n ex x m (ex + (i : Int)) b z e0 e1 = e1 false ex x w ⟨0, 0⟩ := by
  intro n
  induction n with
  | zero => intro i m h; omega
  | succ n ih =>
    intro i m h1 h2 hm
    rw [ref01_Add_19_0_L]
    unfold ref01_Add_19_0_B
    by_cases hlt : ex + (i : Int) < b.exp
    · have ej : (b.exp - ex).toNat - i = ((b.exp - ex).toNat - (i + 1)) + 1 := by omega
      rw [dtrue hlt, cond_true, ej]
      simp only [shiftQ]
      by_cases c1 : m > 288230376151711744
      · rw [dtrue c1, cond_true, if_neg (by omega)]
        exact ⟨_, rfl⟩
      · rw [dfalse c1, cond_false]
        by_cases c2 : m < -288230376151711744
        · rw [dtrue c2, cond_true, if_neg (by omega)]
          exact ⟨_, rfl⟩
        · rw [dfalse c2, cond_false, if_pos (by omega), wrap_id (n := 10 * m) (by omega) (by omega), wrap_id (n := ex + (i : Int) + 1) (by omega) (by omega)]
          have e2 : ex + (i : Int) + 1 = ex + ((i + 1 : Nat) : Int) := by omega
          rw [e2]
          exact ih (i + 1) (10 * m) (by omega) (by omega) (by omega)
    · have ej : (b.exp - ex).toNat - i = 0 := by omega
      rw [dfalse hlt, cond_false, ej]
      rfl

theorem refInt6 {R : Type} (a : Dcm) (ha : a.exp ≤ 1000) (e0 : Int → Option R) (e1 : Int → Bool → Int → Option R) : ∀ (n i : Nat) (m : Int), a.exp.toNat - i < n → i ≤ a.exp.toNat → m.natAbs ≤ 1000000000000000000 →
    match shiftP m (a.exp.toNat - i) with
    | some v => ref01_Int_6_0_L n m (i : Int) a e0 e1 = e0 v
    | none => ∃ w, ref01_Int_6_0_L n m (i : Int) a e0 e1 = e1 0 false w := by
  intro n
  induction n with
  | zero => intro i m h; omega
  | succ n ih =>
    intro i m h1 h2 hm
    rw [ref01_Int_6_0_L]
    unfold ref01_Int_6_0_B
    by_cases hlt : (i : Int) < a.exp
    · have ej : a.exp.toNat - i = (a.exp.toNat - (i + 1)) + 1 := by omega
      rw [dtrue hlt, cond_true, ej]
      simp only [shiftP]
      by_cases c1 : m > 100000000000000000
      · rw [dtrue c1, cond_true, if_neg (by omega)]
        exact ⟨_, rfl⟩
      · rw [dfalse c1, cond_false]
        by_cases c2 : m < -100000000000000000
        · rw [dtrue c2, cond_true, if_neg (by omega)]
          exact ⟨_, rfl⟩
        · rw [dfalse c2, cond_false, if_pos (by omega), wrap_id (n := 10 * m) (by omega) (by omega), wrap_id (n := (i : Int) + 1) (by omega) (by omega), Int.mul_comm 10 m]
          have e2 : (i : Int) + 1 = ((i + 1 : Nat) : Int) := by omega
          rw [e2]
          exact ih (i + 1) (m * 10) (by omega) (by omega) (by omega)
    · have ej : a.exp.toNat - i = 0 := by omega
      rw [dfalse hlt, cond_false, ej]
      rfl

theorem int_same {R : Type} (a : Dcm) (hm : I64 a.mant) (he : I64 a.exp) : ∃ (v : Int) (b : Bool), (∀ k : Int → Bool → Option R, decimal_Int a k = k v b) ∧ ∀ k : Int → Bool → Option R, ref01_Int a k = k v b := by
  have e1 : ∀ k : Int → Bool → Option R, decimal_Int a k = decimal_Int_X decimal_Right decimal_shifted a k := fun _ => rfl
  have e2 : ∀ k : Int → Bool → Option R, ref01_Int a k = ref01_Int_X ref01_Right ref01_Int_6_0_L a k := fun _ => rfl
  cases hf : fmB a with
  | false => exact ⟨0, false, fun k => by rw [e1]; unfold decimal_Int_X; rw [right_any, hf]; rfl, fun k => by rw [e2]; unfold ref01_Int_X; rw [refRight_any a hm he, hf]; rfl⟩
  | true =>
    have hF := fmB_iff.1 hf
    have ba := hF.bounds
    by_cases hx : a.exp < 0
    · exact ⟨0, false, fun k => by rw [e1]; unfold decimal_Int_X; rw [right_any, hf, dtrue hx]; rfl, fun k => by rw [e2]; unfold ref01_Int_X; rw [refRight_any a hm he, hf, dtrue hx]; rfl⟩
    · have q := fun (e0 : Int → Option R) (e1 : Int → Bool → Int → Option R) (F : Nat) (hF : 20 ≤ F) => refInt6 a (by omega) e0 e1 F 0 a.mant (by omega) (by omega) (by omega)
      rw [Nat.sub_zero] at q
      cases hs : shiftP a.mant a.exp.toNat with
      | some v =>
        rw [hs] at q
        refine ⟨v, true, fun k => ?_, fun k => ?_⟩
        · rw [e1]
          unfold decimal_Int_X
          rw [right_any, hf, dfalse hx, Bool.not_true, cond_false, cond_false, shifted_ok hF (by omega) (by omega), Int.sub_zero, hs]
        · rw [e2]
          unfold ref01_Int_X
          rw [refRight_any a hm he, hf, dfalse hx, Bool.not_true, cond_false, cond_false]
          exact q _ _ _ (by omega)
      | none =>
        rw [hs] at q
        refine ⟨0, false, fun k => ?_, fun k => ?_⟩
        · rw [e1]
          unfold decimal_Int_X
          rw [right_any, hf, dfalse hx, Bool.not_true, cond_false, cond_false, shifted_ok hF (by omega) (by omega), Int.sub_zero, hs]
        · rw [e2]
          unfold ref01_Int_X
          rw [refRight_any a hm he, hf, dfalse hx, Bool.not_true, cond_false, cond_false]
          obtain ⟨w, hw⟩ := q (fun y8 => k y8 true) (fun y9 y10 y11 => k y9 y10) (Int.natAbs a.mant + Int.natAbs 0 + Dcm.fu a + 64) (by omega)
          exact hw

theorem add_same {R : Type} (a b : Dcm) (ha : I64 a.mant ∧ I64 a.exp) (hb : I64 b.mant ∧ I64 b.exp) : ∃ r : Dcm × Bool, (∀ k : Dcm → Bool → Option R, decimal_Add a b k = k r.1 r.2) ∧ ∀ k : Dcm → Bool → Option R, ref01_Add a b k = k r.1 r.2 := by
  have e1 : ∀ k : Dcm → Bool → Option R, decimal_Add a b k = decimal_Add_X decimal_Right decimal_Make decimal_shifted a b k := fun _ => rfl
  have e2 : ∀ k : Dcm → Bool → Option R, ref01_Add a b k = ref01_Add_X ref01_Make ref01_Right ref01_Add_13_0_L ref01_Add_19_0_L a b k := fun _ => rfl
  have red : ∀ k : Dcm → Bool → Option R, fmB a = true → fmB b = true → a.mant ≠ 0 → b.mant ≠ 0 → ref01_Add a b k = ref01_Add_13_0_L (Int.natAbs (min a.exp b.exp) + Int.natAbs a.mant + Int.natAbs b.mant + Int.natAbs (min a.exp b.exp) + Dcm.fu a + Dcm.fu b + Dcm.fu (⟨0, 0⟩ : Dcm) + 64) (min a.exp b.exp) a.mant b.mant (min a.exp b.exp) a b (⟨0, 0⟩ : Dcm) (fun y14 y15 y16 y17 y18 => ref01_Add_19_0_L (Int.natAbs y14 + Int.natAbs y15 + Int.natAbs y16 + Int.natAbs y14 + Dcm.fu y17 + Dcm.fu y18 + 64) y14 y15 y16 y14 y17 y18 (fun y32 y33 y34 y35 => ref01_Make (IntKind.i64.wrap (y33 + y34)) y32 (fun y41 y42 => k y41 y42)) (fun y36 y37 y38 y39 y40 => k y40 y36)) (fun y19 y20 y21 y22 y23 y24 => k y24 y19) := by
    intro k fa fb a0 b0
    rw [e2]
    unfold ref01_Add_X
    have q1 : (a.mant == 0) = false := by rw [beq_eq_false_iff_ne]; exact a0
    have q2 : (b.mant == 0) = false := by rw [beq_eq_false_iff_ne]; exact b0
    rw [refRight_any a ha.1 ha.2, refRight_any b hb.1 hb.2, fa, fb, q1, q2]
    rfl
  cases fa : fmB a with
  | false => exact ⟨noD, fun k => by rw [e1]; unfold decimal_Add_X; rw [right_any, fa]; rfl, fun k => by rw [e2]; unfold ref01_Add_X; rw [refRight_any a ha.1 ha.2, refRight_any b hb.1 hb.2, fa]; rfl⟩
  | true =>
    cases fb : fmB b with
    | false => exact ⟨noD, fun k => by rw [e1]; unfold decimal_Add_X; rw [right_any, right_any, fa, fb]; rfl, fun k => by rw [e2]; unfold ref01_Add_X; rw [refRight_any a ha.1 ha.2, refRight_any b hb.1 hb.2, fa, fb]; rfl⟩
    | true =>
      have hA := fmB_iff.1 fa
      have hB := fmB_iff.1 fb
      have ba := hA.bounds
      have bb := hB.bounds
      by_cases a0 : a.mant = 0
      · refine ⟨(b, true), fun k => ?_, fun k => ?_⟩
        · rw [add_z hA hB (.inl a0), hA.zero a0]
          simp
        · rw [e2]
          unfold ref01_Add_X
          rw [refRight_any a ha.1 ha.2, refRight_any b hb.1 hb.2, fa, fb, a0]
          rfl
      by_cases b0 : b.mant = 0
      · refine ⟨(a, true), fun k => ?_, fun k => ?_⟩
        · rw [add_z hA hB (.inr b0), hB.zero b0]
          simp
        · rw [e2]
          unfold ref01_Add_X
          have q1 : (a.mant == 0) = false := by rw [beq_eq_false_iff_ne]; exact a0
          rw [refRight_any a ha.1 ha.2, refRight_any b hb.1 hb.2, fa, fb, q1, b0]
          rfl
      have hcase : a.exp = min a.exp b.exp ∨ b.exp = min a.exp b.exp := by omega
      generalize hex : min a.exp b.exp = ex at *
      have q13 := fun (k : Dcm → Bool → Option R) => refAdd13 (R := R) ex b.mant a b ⟨0, 0⟩ (by omega) (by omega) (fun y14 y15 y16 y17 y18 => ref01_Add_19_0_L (Int.natAbs y14 + Int.natAbs y15 + Int.natAbs y16 + Int.natAbs y14 + Dcm.fu y17 + Dcm.fu y18 + 64) y14 y15 y16 y14 y17 y18 (fun y32 y33 y34 y35 => ref01_Make (IntKind.i64.wrap (y33 + y34)) y32 (fun y41 y42 => k y41 y42)) (fun y36 y37 y38 y39 y40 => k y40 y36)) (fun y19 y20 y21 y22 y23 y24 => k y24 y19) (Int.natAbs ex + Int.natAbs a.mant + Int.natAbs b.mant + Int.natAbs ex + Dcm.fu a + Dcm.fu b + Dcm.fu (⟨0, 0⟩ : Dcm) + 64) 0 a.mant (by omega) (by omega) (by omega)
      have q19 := fun (k : Dcm → Bool → Option R) (X : Int) => refAdd19 (R := R) ex X b ⟨0, 0⟩ (by omega) (by omega) (fun y32 y33 y34 y35 => ref01_Make (IntKind.i64.wrap (y33 + y34)) y32 (fun y41 y42 => k y41 y42)) (fun y36 y37 y38 y39 y40 => k y40 y36) (Int.natAbs ex + Int.natAbs X + Int.natAbs b.mant + Int.natAbs ex + Dcm.fu b + Dcm.fu (⟨0, 0⟩ : Dcm) + 64) 0 b.mant (by omega) (by omega) (by omega)
      have c0 : ex + ((0 : Nat) : Int) = ex := by omega
      simp only [Nat.sub_zero, c0] at q13 q19
      have hdec := fun (k : Dcm → Bool → Option R) => add_nz hA hB a0 b0 k
      simp only [hex] at hdec
      -- the document's side, by its two shifts
      have side : ∀ k : Dcm → Bool → Option R, ref01_Add a b k = match shiftQ a.mant (a.exp - ex).toNat, shiftQ b.mant (b.exp - ex).toNat with
          | some X, some Y => ref01_Make (IntKind.i64.wrap (X + Y)) ex k
          | _, _ => k ⟨0, 0⟩ false := by
        intro k
        have h13 := q13 k
        rw [red k fa fb a0 b0]
        cases hX : shiftQ a.mant (a.exp - ex).toNat with
        | none =>
          rw [hX] at h13
          obtain ⟨w, hw⟩ := h13
          exact hw
        | some X =>
          rw [hX] at h13
          refine h13.trans ?_
          have h19 := q19 k X
          cases hY : shiftQ b.mant (b.exp - ex).toNat with
          | none =>
            rw [hY] at h19
            obtain ⟨w, hw⟩ := h19
            exact hw
          | some Y =>
            rw [hY] at h19
            exact h19
      -- a great number and a small one behind it
      have far : ∀ X Y : Int, 1000000000000000000 < X.natAbs → X.natAbs ≤ 2882303761517117440 → Int.tmod X 10 = 0 → Y.natAbs ≤ 1000000000000000 → Int.tmod Y 10 ≠ 0 → ∀ k : Dcm → Bool → Option R, ref01_Make (IntKind.i64.wrap (X + Y)) ex k = k ⟨0, 0⟩ false := by
        intro X Y h1 h2 h3 h4 h5 k
        rw [wrap_id (by omega) (by omega)]
        have ht : Int.tmod (X + Y) 10 ≠ 0 := by
          intro h
          have d1 := Int.dvd_of_tmod_eq_zero h3
          have d2 := Int.dvd_of_tmod_eq_zero h
          have d3 : (10 : Int) ∣ Y := by
            have := Int.dvd_sub d2 d1
            rwa [show X + Y - X = Y by omega] at this
          exact h5 (Int.tmod_eq_zero_of_dvd d3)
        have := refMake_ok (R := R) (X + Y) 0 ex ht (by rw [show (X + Y) * 10 ^ 0 = X + Y by simp]; unfold I64; omega) (by unfold I64; omega) k
        rw [show (X + Y) * 10 ^ 0 = X + Y by simp] at this
        rw [this, mkD_far _ (by omega)]
      cases hX : shiftP a.mant (a.exp - ex).toNat with
      | some X =>
        have lX := shiftP_le _ _ _ hX (by omega)
        have qX := shiftPQ _ _ _ hX
        cases hY : shiftP b.mant (b.exp - ex).toNat with
        | some Y =>
          have lY := shiftP_le _ _ _ hY (by omega)
          have qY := shiftPQ _ _ _ hY
          obtain ⟨r, _, h1, h2⟩ := make_all (R := R) (X + Y) ex (by unfold I64; omega) (by unfold I64; omega)
          refine ⟨r, fun k => ?_, fun k => ?_⟩
          · rw [hdec, hX, hY]
            simp only
            rw [wrap_id (by omega) (by omega), h1]
          · rw [side, qX, qY]
            simp only
            rw [wrap_id (by omega) (by omega), h2]
        | none =>
          refine ⟨noD, fun k => by rw [hdec, hX, hY]; rfl, fun k => ?_⟩
          rw [side, qX]
          cases hY2 : shiftQ b.mant (b.exp - ex).toNat with
          | none => rfl
          | some Y =>
            obtain ⟨g1, g2, g3⟩ := shift_part _ _ _ hY hY2
            have lY := shiftQ_le _ _ _ hY2 (by omega)
            have hXa : X = a.mant := by
              have := shiftP_val _ _ _ hX
              rw [show (a.exp - ex).toNat = 0 by omega] at this
              simpa using this
            simp only
            rw [show X + Y = Y + X by omega]
            exact far Y X g1 lY g2 (by rw [hXa]; omega) (by rw [hXa]; exact hA.nz a0) k
      | none =>
        refine ⟨noD, fun k => by rw [hdec, hX]; rfl, fun k => ?_⟩
        rw [side]
        cases hX2 : shiftQ a.mant (a.exp - ex).toNat with
        | none => rfl
        | some X =>
          obtain ⟨g1, g2, g3⟩ := shift_part _ _ _ hX hX2
          have lX := shiftQ_le _ _ _ hX2 (by omega)
          have hY : shiftQ b.mant (b.exp - ex).toNat = some b.mant := by rw [show (b.exp - ex).toNat = 0 by omega]; rfl
          rw [hY]
          simp only
          exact far X b.mant g1 lX g2 (by omega) (hB.nz b0) k
end Go.Proofs.YtifgegmnngfckaaDoor

set_option linter.unusedVariables false
set_option maxRecDepth 100000
namespace Go.Proofs.YtifgegmnngfckaaDoor
open Go Go.Yard Go.Lib

def partsP (d : Dcm) : Str := zeros (40 - (decDigits d.mant.natAbs ++ zeros (d.exp + 9).toNat).length) ++ (decDigits d.mant.natAbs ++ zeros (d.exp + 9).toNat)

theorem refParts3 {R : Type} (d : Dcm) (hd : -9 ≤ d.exp ∧ d.exp ≤ 9) (e0 : Str → Option R) : ∀ (n i : Nat) (y : Str), (d.exp + 9).toNat - i < n → y.length ≤ 1000 + i → i ≤ 2000 →
    ref01_parts_3_0_L n y (i : Int) d e0 = e0 (y ++ zeros ((d.exp + 9).toNat - i)) := by
  intro n
  induction n with
  | zero => intro i y h; omega
  | succ n ih =>
    intro i y h hy hi
    rw [ref01_parts_3_0_L]
    unfold ref01_parts_3_0_B
    rw [wrap_id (n := d.exp + 9) (by omega) (by omega)]
    by_cases hlt : (i : Int) < d.exp + 9
    · rw [dtrue hlt, cond_true, chk_pos (dtrue (by omega)), wrap_id (n := (i : Int) + 1) (by omega) (by omega)]
      refine (ih (i + 1) (y ++ [48]) (by omega) (by simp; omega) (by omega)).trans ?_
      have e : (d.exp + 9).toNat - i = ((d.exp + 9).toNat - (i + 1)) + 1 := by omega
      have e2 : ([48] : Str) ++ zeros ((d.exp + 9).toNat - (i + 1)) = zeros ((d.exp + 9).toNat - (i + 1) + 1) := by
        have := zeros_add 1 ((d.exp + 9).toNat - (i + 1))
        rw [Nat.add_comm 1] at this
        exact this
      rw [List.append_assoc, e2, ← e]
    · rw [dfalse hlt, cond_false]
      have e : (d.exp + 9).toNat - i = 0 := by omega
      have z0 : zeros 0 = [] := rfl
      rw [e, z0, List.append_nil]

theorem refParts6 {R : Type} (e0 : Str → Option R) : ∀ (n : Nat) (y : Str), 40 - y.length < n → y.length ≤ 100000 →
    ref01_parts_6_0_L n y e0 = e0 (zeros (40 - y.length) ++ y) := by
  intro n
  induction n with
  | zero => intro y h; omega
  | succ n ih =>
    intro y h hy
    rw [ref01_parts_6_0_L]
    unfold ref01_parts_6_0_B
    by_cases hlt : (y.length : Int) < 40
    · rw [dtrue hlt, cond_true, chk_pos (dtrue (by omega))]
      have hl : (([48] : Str) ++ y).length = y.length + 1 := by simp
      refine (ih (([48] : Str) ++ y) (by rw [hl]; omega) (by rw [hl]; omega)).trans ?_
      rw [hl]
      have e : 40 - y.length = (40 - (y.length + 1)) + 1 := by omega
      rw [e, ← zeros_snoc, List.append_assoc]
    · rw [dfalse hlt, cond_false]
      have e : 40 - y.length = 0 := by omega
      rw [e]
      rfl

theorem refParts_ok {R : Type} {d : Dcm} (hd : Fm d) (k : Str → Option R) : ref01_parts d k = k (partsP d) := by
  have bd := hd.bounds
  have e : ref01_parts d k = ref01_parts_X ref01_text ref01_parts_3_0_L ref01_parts_6_0_L d k := rfl
  rw [e]
  unfold ref01_parts_X
  have hm : max d.mant (0 - d.mant) = (d.mant.natAbs : Int) := by omega
  have hlen : (decDigits d.mant.natAbs).length ≤ 16 := by rw [decDigits_length]; exact digits16 (by omega)
  rw [wrap_id (n := 0 - d.mant) (by omega) (by omega), hm, refText_ok _ (by omega)]
  unfold partsP
  generalize decDigits d.mant.natAbs = L at *
  have key0 : ∀ (e0 : Str → Option R) (F : Nat) (hF : 20 ≤ F), ref01_parts_3_0_L F L 0 d e0 = e0 (L ++ zeros (d.exp + 9).toNat) := fun e0 F hF => by
    have := refParts3 (R := R) d (by omega) e0 F 0 L (by omega) (by omega) (by omega)
    rw [Nat.sub_zero] at this
    exact this
  rw [key0 _ _ (by omega), refParts6 _ _ _ (by omega) (by rw [List.length_append, zeros_len]; omega)]

theorem valD_zeros : ∀ (n v : Nat), valD (zeros n) v = v * 10 ^ n
  | 0, v => by simp [zeros, valD]
  | n + 1, v => by
    have e : zeros (n + 1) = 48 :: zeros n := rfl
    rw [e]
    simp only [valD]
    have h48 : (48 : UInt8).toNat = 48 := rfl
    rw [valD_zeros n, h48, Nat.sub_self, Nat.add_zero, Nat.pow_succ, Nat.mul_comm 10, Nat.mul_assoc, Nat.mul_comm 10]
theorem valD_dec (u : Nat) : valD (decDigits u) 0 = u := by
  induction u using Nat.strongRecOn with
  | _ u ih =>
    by_cases h : u < 10
    · rw [decDigits, dif_pos h]
      simp only [valD, u8_nat (48 + u) (by omega)]
      omega
    · rw [decDigits, dif_neg h, valD_app, ih (u / 10) (by omega)]
      simp only [valD, u8_nat (48 + u % 10) (by omega)]
      omega

theorem lt_dig : ∀ (s t : Str) (v : Nat), s.length = t.length → (∀ x ∈ s, isDig x) → (∀ x ∈ t, isDig x) → bytesLt s t = decide (valD s v < valD t v)
  | [], [], v, _, _, _ => by simp [bytesLt]
  | [], _ :: _, _, h, _, _ => by cases h
  | _ :: _, [], _, h, _, _ => by cases h
  | a :: s, b :: t, v, h, hs, ht => by
    have hl : s.length = t.length := by simpa using h
    have ha := hs a (by simp)
    have hb := ht b (by simp)
    unfold isDig at ha hb
    have hs' : ∀ x ∈ s, isDig x := fun x hx => hs x (by simp [hx])
    have ht' : ∀ x ∈ t, isDig x := fun x hx => ht x (by simp [hx])
    show (decide (a < b) || (a == b && bytesLt s t)) = decide (valD s (10 * v + (a.toNat - 48)) < valD t (10 * v + (b.toNat - 48)))
    -- one head above the other decides
    have above : ∀ (p q : Str) (x y : Nat), p.length = q.length → (∀ c ∈ p, isDig c) → x < y → valD p x < valD q y := fun p q x y hpq hp hxy => by
      have h1 := valD_lt p x hp
      have h2 := valD_ge q y
      have h3 : (x + 1) * 10 ^ p.length ≤ y * 10 ^ p.length := Nat.mul_le_mul_right _ hxy
      rw [hpq] at h1 h3
      omega
    by_cases hab : a = b
    · subst hab
      have e1 : decide (a < a) = false := dfalse (by simp)
      rw [e1, BEq.rfl, Bool.false_or, Bool.true_and]
      exact lt_dig s t _ hl hs' ht'
    · have hne : (a == b) = false := by rw [beq_eq_false_iff_ne]; exact hab
      rw [hne, Bool.false_and, Bool.or_false]
      have hn : a.toNat ≠ b.toNat := fun h => hab (UInt8.toNat_inj.1 h)
      by_cases hlt : a.toNat < b.toNat
      · have h1 := above s t (10 * v + (a.toNat - 48)) (10 * v + (b.toNat - 48)) hl hs' (by omega)
        rw [dtrue h1, dtrue (UInt8.lt_iff_toNat_lt.2 hlt)]
      · have h1 := above t s (10 * v + (b.toNat - 48)) (10 * v + (a.toNat - 48)) hl.symm ht' (by omega)
        rw [dfalse (show ¬ valD s (10 * v + (a.toNat - 48)) < valD t (10 * v + (b.toNat - 48)) by omega), dfalse (fun h => hlt (UInt8.lt_iff_toNat_lt.1 h))]

theorem parts_facts {d : Dcm} (hd : Fm d) : (partsP d).length = 40 ∧ (∀ x ∈ partsP d, isDig x) ∧ valD (partsP d) 0 = (val d).natAbs := by
  have bd := hd.bounds
  have hlen : (decDigits d.mant.natAbs).length ≤ 16 := by rw [decDigits_length]; exact digits16 (by omega)
  have hd' := dec_all d.mant.natAbs
  have hv := valD_dec d.mant.natAbs
  have hval : (val d).natAbs = d.mant.natAbs * 10 ^ (d.exp + 9).toNat := by
    unfold val
    rw [Int.natAbs_mul, Int.natAbs_pow]
    rfl
  rw [hval]
  unfold partsP
  generalize decDigits d.mant.natAbs = L at *
  refine ⟨by rw [List.length_append, List.length_append, zeros_len, zeros_len]; omega, fun x hx => ?_, ?_⟩
  · rcases List.mem_append.1 hx with hx | hx
    · exact zeros_dig _ x hx
    · rcases List.mem_append.1 hx with hx | hx
      · exact hd' x hx
      · exact zeros_dig _ x hx
  · rw [valD_app, valD_zeros, Nat.zero_mul, valD_app, hv, valD_zeros]

theorem compare_bad {R : Type} (a b : Dcm) (h : fmB a = false ∨ fmB b = false) (k : Int → Option R) : decimal_Compare a b k = k 0 := by
  have e : decimal_Compare a b k = decimal_Compare_X decimal_Right decimal_sign cmp_Compare_int decimal_size decimal_shifted a b k := rfl
  rw [e]
  unfold decimal_Compare_X
  have sg : ∀ (m : Int) (f : Int → Option R), decimal_sign m f = f (sgn m) := fun m f => by
    have e : decimal_sign m f = cmp_Compare_int m 0 (fun y2 => f y2) := rfl
    rw [e, cmp_ok, Int.sub_zero]
  rw [sg, right_any]
  cases ha : fmB a with
  | false => rfl
  | true =>
    have hb : fmB b = false := by rcases h with h | h; (rw [ha] at h; cases h); exact h
    rw [right_any, hb]
    rfl

theorem refCompare_bad {R : Type} (a b : Dcm) (ha : I64 a.mant ∧ I64 a.exp) (hb : I64 b.mant ∧ I64 b.exp) (h : fmB a = false ∨ fmB b = false) (k : Int → Option R) : ref01_Compare a b k = k 0 := by
  have e : ref01_Compare a b k = ref01_Compare_X ref01_Right ref01_parts a b k := rfl
  rw [e]
  unfold ref01_Compare_X
  rw [refRight_any a ha.1 ha.2, refRight_any b hb.1 hb.2]
  cases ga : fmB a with
  | false => rfl
  | true =>
    have gb : fmB b = false := by rcases h with h | h; (rw [ga] at h; cases h); exact h
    rw [gb]
    rfl

theorem refCompare_ok {R : Type} {a b : Dcm} (hA : Fm a) (hB : Fm b) (k : Int → Option R) : ref01_Compare a b k = k (sgn (val a - val b)) := by
  have ba := hA.bounds
  have bb := hB.bounds
  have e : ref01_Compare a b k = ref01_Compare_X ref01_Right ref01_parts a b k := rfl
  rw [e]
  unfold ref01_Compare_X
  rw [refRight_any a (by unfold I64; omega) (by unfold I64; omega), refRight_any b (by unfold I64; omega) (by unfold I64; omega), fmB_iff.2 hA, fmB_iff.2 hB]
  simp only [Bool.not_true, cond_false]
  by_cases hab : a = b
  · subst hab
    have e1 : (a.mant == a.mant && (a.exp == a.exp && true)) = true := by simp
    rw [e1, cond_true, Int.sub_self]
    rfl
  have hne : val a ≠ val b := fun h => hab (val_inj hA hB h)
  have e1 : (a.mant == b.mant && (a.exp == b.exp && true)) = false := by
    rw [Bool.eq_false_iff]
    intro h
    simp only [Bool.and_true, Bool.and_eq_true, beq_iff_eq] at h
    apply hab
    cases a; cases b
    simp only at h
    rw [h.1, h.2]
  rw [e1, cond_false]
  obtain ⟨la, da, va⟩ := parts_facts hA
  obtain ⟨lb, db, vb⟩ := parts_facts hB
  have hlt := lt_dig (partsP a) (partsP b) 0 (by rw [la, lb]) da db
  rw [va, vb] at hlt
  have pa := pow_pos10 (a.exp + 9).toNat
  have pb := pow_pos10 (b.exp + 9).toNat
  have sa := val_sgn (d := a)
  have sb := val_sgn (d := b)
  have neg : ∀ d : Dcm, d.mant < 0 → val d < 0 := fun d h => Int.mul_neg_of_neg_of_pos h (by have := pow_pos10 (d.exp + 9).toNat; omega)
  have pos : ∀ d : Dcm, 0 ≤ d.mant → 0 ≤ val d := fun d h => Int.mul_nonneg h (by have := pow_pos10 (d.exp + 9).toNat; omega)
  have res : ∀ z : Int, (z < 0 → sgn z = -1) ∧ (0 < z → sgn z = 1) := fun z => by
    rcases sgn3 z with ⟨h1, h2⟩ | ⟨h1, h2⟩ | ⟨h1, h2⟩
    · exact ⟨fun _ => h2, fun h => by omega⟩
    · exact ⟨fun h => by omega, fun h => by omega⟩
    · exact ⟨fun h => by omega, fun _ => h2⟩
  by_cases na : a.mant < 0
  · have n1 := neg a na
    rw [dtrue na, dfalse (show ¬ a.mant ≥ 0 by omega)]
    simp only [cond_true, cond_false]
    by_cases nb : b.mant ≥ 0
    · have n2 := pos b nb
      rw [dtrue nb, cond_true, (res _).1 (by omega)]
    · have n2 := neg b (by omega)
      rw [dfalse nb, cond_false, refParts_ok hA, refParts_ok hB, hlt]
      by_cases h : (val a).natAbs < (val b).natAbs
      · rw [dtrue h, Bool.not_true, cond_false, (res _).2 (by omega)]
      · rw [dfalse h, Bool.not_false, cond_true, (res _).1 (by omega)]
  · have n1 := pos a (by omega)
    rw [dfalse na, dtrue (show a.mant ≥ 0 by omega)]
    simp only [cond_true, cond_false]
    by_cases nb : b.mant < 0
    · have n2 := neg b nb
      rw [dtrue nb, cond_true, (res _).2 (by omega)]
    · have n2 := pos b (by omega)
      rw [dfalse nb, cond_false, refParts_ok hA, refParts_ok hB, hlt]
      by_cases h : (val a).natAbs < (val b).natAbs
      · rw [dtrue h, cond_true, (res _).1 (by omega)]
      · rw [dfalse h, cond_false, (res _).2 (by omega)]

theorem compare_same {R : Type} (a b : Dcm) (ha : I64 a.mant ∧ I64 a.exp) (hb : I64 b.mant ∧ I64 b.exp) : ∃ r : Int, (∀ k : Int → Option R, decimal_Compare a b k = k r) ∧ ∀ k : Int → Option R, ref01_Compare a b k = k r := by
  cases fa : fmB a with
  | false => exact ⟨0, fun k => compare_bad a b (.inl fa) k, fun k => refCompare_bad a b ha hb (.inl fa) k⟩
  | true =>
    cases fb : fmB b with
    | false => exact ⟨0, fun k => compare_bad a b (.inr fb) k, fun k => refCompare_bad a b ha hb (.inr fb) k⟩
    | true => exact ⟨_, fun k => compare_ok (fmB_iff.1 fa) (fmB_iff.1 fb) k, fun k => refCompare_ok (fmB_iff.1 fa) (fmB_iff.1 fb) k⟩

theorem eqD (d : Dcm) : (d.mant == d.mant && (d.exp == d.exp && true)) = true := by rw [beq_self_eq_true, beq_self_eq_true]; rfl
theorem eqB (b : Bool) : (!(b == b)) = false := by cases b <;> rfl
theorem neI' (v : Int) : (v != v) = false := bne_self_eq_false v
theorem eqS' (s : Str) : (!(s == s)) = false := by rw [beq_self_eq_true]; rfl
theorem tells12 {R : Type} (l : List Dec2) (hl : l.length = 4) (hall : ∀ z ∈ l, (I64 z.a.mant ∧ I64 z.a.exp) ∧ I64 z.b.mant ∧ I64 z.b.exp) (e0 : Option R) (e1 : Bool → Option R) : ∀ (n i : Nat), 4 - i < n → i ≤ 4 → law01_DecimalTells_12_0_L n l 4 (i : Int) e0 e1 = e0 := by
  intro n
  induction n with
  | zero => intro i h; omega
  | succ n ih =>
    intro i h hi
    rw [law01_DecimalTells_12_0_L]
    unfold law01_DecimalTells_12_0_B
    by_cases hlt : i < 4
    · have hg : l.getD i (Ty.dflt .dec2) = l[i] := getD_at (by omega) _
      obtain ⟨ha, hb⟩ := hall l[i] (List.getElem_mem (by omega))
      rw [dtrue (show (i : Int) < 4 by omega), cond_true, chk_pos (by rw [dtrue (by omega), dtrue (by omega)]; rfl), Int.toNat_natCast, hg]
      generalize l[i] = z at *
      obtain ⟨r, h1, h2⟩ := add_same (R := R) z.a z.b ha hb
      obtain ⟨v, b, h3, h4⟩ := int_same (R := R) z.a ha.1 ha.2
      obtain ⟨c, h5, h6⟩ := compare_same (R := R) z.a z.b ha hb
      rw [h1, h2, h3, h4, eqD, Bool.not_true, cond_false, eqB, cond_false, neI', cond_false, eqB, cond_false, right_any, refRight_any z.a ha.1 ha.2, eqB, cond_false, print_any, refPrint_any z.a ha.1 ha.2, eqS', cond_false, h5, h6, neI', cond_false]
      rw [wrap_id (n := (i : Int) + 1) (by omega) (by omega)]
      have := ih (i + 1) (by omega) (by omega)
      exact this
    · rw [dfalse (show ¬ (i : Int) < 4 by omega), cond_false]

theorem decimalTells_true {R : Type} (mant ex : Int) (s : Str) (a b : Arr2) (hm : Small 1048576 (.int .i64 mant)) (hx : Small 1048576 (.int .i64 ex)) (hs : Small 1048576 (.str s)) (ha : ∀ c ∈ Ty.cells .arr2 a, Small 1048576 c) (hb : ∀ c ∈ Ty.cells .arr2 b, Small 1048576 c) (k : Bool → Option R) :
    law01_DecimalTells mant ex s a b k = k true := by
  have im := i64_has.1 hm.int_inv
  have ix := i64_has.1 hx.int_inv
  have hsl := hs.str_inv
  have e : law01_DecimalTells mant ex s a b k = law01_DecimalTells_X law01_awake law01_Fit decimal_Parse decimal_Make ref01_Make ref01_Parse law01_DecimalTells_12_0_L mant ex s a b k := rfl
  rw [e]
  unfold law01_DecimalTells_X
  rw [awake01]
  obtain ⟨r, hr, h1, h2⟩ := make_all (R := R) mant ex im ix
  obtain ⟨d, hd, fd⟩ := fit_ok (R := R) a.a a.b (arr2_i64 ha).1 (arr2_i64 ha).2
  obtain ⟨f, hf, ff⟩ := fit_ok (R := R) b.a b.b (arr2_i64 hb).1 (arr2_i64 hb).2
  rw [h1, h2, parse_any s (by omega), refParse_ok]
  rw [Bool.not_true, cond_false, eqD, Bool.not_true, cond_false, eqB, cond_false, eqD, Bool.not_true, cond_false, eqB, cond_false, fd, ff]
  have bd := hd.bounds
  have bf := hf.bounds
  have i64d : ∀ {d : Dcm}, Fm d → I64 d.mant ∧ I64 d.exp := fun {d} h => by have := h.bounds; unfold I64; omega
  have hrI : I64 r.1.mant ∧ I64 r.1.exp := by
    rcases hr with ⟨_, h⟩ | ⟨u, j, _, hu, h⟩
    · rw [h]; exact ⟨by unfold I64; decide, by unfold I64; decide⟩
    · rw [h]
      unfold mkD
      split
      · exact ⟨show I64 u by unfold I64; omega, show I64 (ex + (j : Int)) by unfold I64; omega⟩
      · exact ⟨by unfold I64; decide, by unfold I64; decide⟩
  refine tells12 _ rfl (fun z hz => ?_) (k true) (fun y36 => k y36) _ 0 (by simp only [List.length_cons, List.length_nil]; omega) (by omega)
  simp only [List.mem_cons, List.not_mem_nil, or_false] at hz
  rcases hz with rfl | rfl | rfl | rfl
  · exact ⟨i64d hd, i64d hf⟩
  · exact ⟨⟨im, ix⟩, i64d hf⟩
  · exact ⟨i64d hf, ⟨im, ix⟩⟩
  · exact ⟨hrI, i64d hd⟩
end Go.Proofs.YtifgegmnngfckaaDoor

set_option linter.unusedVariables false
set_option maxRecDepth 100000
namespace Go.Proofs.YtifgegmnngfckaaDoor.decimalTells
open Go.ChangeShapes Go.WideShapes Go.ChangeAt Go.RowKit Go.Yard Door

theorem run (a0 : Int) (a1 : Int) (a2 : Str) (a3 : Arr2) (a4 : Arr2) : specBy law01_DecimalTells_p law01_DecimalTells_q (law01_DecimalTells_rr law01_DecimalTells) specNo [.int .i64 a0, .int .i64 a1, .str a2, .agg [.int .i64 a3.a, .int .i64 a3.b], .agg [.int .i64 a4.a, .int .i64 a4.b]] [] kOk = law01_DecimalTells a0 a1 a2 a3 a4 (fun q0 => kOk (.bool q0) []) := by kernel_rfl

theorem contract (H : Type) (enc : TypeId × Value → H) (W : World) (base : Nat) (args : Array Value) (ds gs : List (DataW H)) (before : List MemPlace)
    (hval : ∀ (j : Nat) t v, Tryd.f15.params[j]? = some t → args[j]? = some v → Value.okWide Tryd.prog W .any base t v)
    (hW : DataW.Whole enc Tryd.prog Tryd.f15.params.toList Rows.decimalTellsSpec.vars false W args.toList ds gs before) (hL : laidMetH Tryd.prog Rows.decimalTellsUptoRow.laid W) (hk : Rows.uptoSmall H (ds ++ gs) = true) :
    Calls Tryd.prog 15 args W fun e W' => ∃ v, e = .returned v ∧ Rows.decimalTellsSpec.post enc Tryd.prog Tryd.f15 false true false false W args v W' := by
  have hW' := hW
  obtain ⟨p, q, hA0, hV, hpq, hfz, hnd⟩ := hW
  have hA : DataW.TrodAll enc Tryd.prog W 0 (fun _ => true) true [3, 3, 9, 52, 52] args.toList ds p := hA0
  have hval : ∀ (j : Nat) t v, (#[3, 3, 9, 52, 52] : Array Nat)[j]? = some t → args[j]? = some v → Value.okWide Tryd.prog W .any base t v := hval
  obtain ⟨v0, vs0, d0, ds0, p0, q0, hargs, rfl, rfl, h0, r0⟩ := trodAll_cons hA
  obtain ⟨v1, vs1, d1, ds1, p1, q1, rfl, rfl, rfl, h1, r1⟩ := trodAll_cons r0
  obtain ⟨v2, vs2, d2, ds2, p2, q2, rfl, rfl, rfl, h2, r2⟩ := trodAll_cons r1
  obtain ⟨v3, vs3, d3, ds3, p3, q3, rfl, rfl, rfl, h3, r3⟩ := trodAll_cons r2
  obtain ⟨v4, vs4, d4, ds4, p4, q4, rfl, rfl, rfl, h4, r4⟩ := trodAll_cons r3
  obtain ⟨rfl, rfl, rfl⟩ := trodAll_nil r4
  obtain rfl : args = #[v0, v1, v2, v3, v4] := by cases args; simp_all
  have hV' : DataW.TrodVars enc Tryd.prog W (fun _ => true) [] gs q := hV
  obtain ⟨rfl, rfl⟩ := trodVars_none hV'
  have hb : Rows.uptoBulkAll ([d0, d1, d2, d3, d4] ++ []) ≤ 1048576 := of_decide_eq_true hk
  simp only [List.append_nil, Rows.uptoBulkAll] at hb
  obtain ⟨a0, q0, s0⟩ := arg_one (p := .int .i64) (N := 1048576) leaves (by kernel_rfl) (by kernel_rfl) (hval 0 3 v0 rfl rfl) h0 (by omega) (Nat.le_of_ble_eq_true rfl)
  obtain ⟨a1, q1, s1⟩ := arg_one (p := .int .i64) (N := 1048576) leaves (by kernel_rfl) (by kernel_rfl) (hval 1 3 v1 rfl rfl) h1 (by omega) (Nat.le_of_ble_eq_true rfl)
  obtain ⟨a2, q2, s2⟩ := arg_one (p := .str) (N := 1048576) leaves (by kernel_rfl) (by kernel_rfl) (hval 2 9 v2 rfl rfl) h2 (by omega) (Nat.le_of_ble_eq_true rfl)
  obtain ⟨a3, q3, s3⟩ := arg_agg (T := .arr2) (N := 1048576) leaves (by kernel_rfl) (by kernel_rfl) (hval 3 52 v3 rfl rfl) h3 (by omega) (Nat.le_of_ble_eq_true rfl)
  obtain ⟨a4, q4, s4⟩ := arg_agg (T := .arr2) (N := 1048576) leaves (by kernel_rfl) (by kernel_rfl) (hval 4 52 v4 rfl rfl) h4 (by omega) (Nat.le_of_ble_eq_true rfl)
  have ra : RepL W [] cfg0 [.int .i64 a0, .int .i64 a1, .str a2, .agg [.int .i64 a3.a, .int .i64 a3.b], .agg [.int .i64 a4.a, .int .i64 a4.b]] #[v0, v1, v2, v3, v4].toList := (.cons q0 (.cons q1 (.cons q2 (.cons q3 (.cons q4 .nil)))))
  obtain ⟨hsays, hblocks⟩ := lay_met (W := W) hL
  refine (calls_true Tryd.func15 rfl rfl (law01_DecimalTells_S_ok Unit _ (specNo_ok _)) hsays hblocks ra ((run a0 a1 a2 a3 a4).trans (decimalTells_true a0 a1 a2 a3 a4 s0 s1 s2 s3 s4 (fun q0 => kOk (.bool q0) [])))).mono fun e W' ⟨he, L⟩ => ⟨_, he, ?_⟩
  exact post_true (by kernel_rfl) (params_ok (by kernel_rfl)) rfl rfl rfl (show Tryd.prog.underlying 4 = some .bool by kernel_rfl) hW' L

theorem reads (os : Os) {H : Type} (enc : TypeId × Value → H) : (DataW.whole enc Tryd.prog ((laidWorld os).forCall (fun _ _ => 0) ⟨#[], #[.int .i64 0, .int .i64 0, .string .empty, .agg #[.int .i64 0, .int .i64 0], .agg #[.int .i64 0, .int .i64 0]], []⟩).memory Tryd.f15.params.toList Rows.decimalTellsSpec.vars false (#[.int .i64 0, .int .i64 0, .string .empty, .agg #[.int .i64 0, .int .i64 0], .agg #[.int .i64 0, .int .i64 0]] : Array Value).toList 8).map (fun x => (x.1, x.2.1)) = some ([.lit (.int .i64 0), .lit (.int .i64 0), .lit (.string []), .agg [.lit (.int .i64 0), .lit (.int .i64 0)], .agg [.lit (.int .i64 0), .lit (.int .i64 0)]], []) := by kernel_rfl
theorem lifted (os : Os) (started : os.Started) (H : Type) (enc : TypeId × Value → H) (F : Stop.Interp) :
    ReturnsInHanded {} Tryd.checked os 15 .any ((Rows.OpenSpec.upto Rows.decimalTellsSpec).preRow enc Tryd.prog Tryd.f15 Rows.decimalTellsUptoRow.domain false Rows.decimalTellsUptoRow.laid) (((Rows.OpenSpec.upto Rows.decimalTellsSpec).at F).post enc Tryd.prog Tryd.f15 false true false false) := by
  obtain ⟨⟨x1, x2, x3⟩, hx, hx1⟩ := Option.map_eq_some_iff.1 (reads os enc)
  simp only [Prod.mk.injEq] at hx1
  obtain ⟨rfl, rfl⟩ := hx1
  refine returnsInHanded_of_row (C := Tryd.checked) (s := Rows.OpenSpec.upto Rows.decimalTellsSpec) own started (by kernel_rfl) Tryd.func15
    (witness_row_atRef (enc := enc) (C := Tryd.checked) false (laidWorld os) #[.int .i64 0, .int .i64 0, .string .empty, .agg #[.int .i64 0, .int .i64 0], .agg #[.int .i64 0, .int .i64 0]] rfl (by kernel_rfl) (by kernel_rfl) (by kernel_rfl)
      (OpenSpec.preRow_of_cond 8 hx (by kernel_rfl) (fun k hk => by cases hk; kernel_rfl) (by kernel_rfl) (laid_met os _))) ?_
  intro W base args ds gs before hval hW _ hcond _ hL _ _
  exact contract H enc W base args ds gs before hval hW hL (hcond _ rfl)

theorem saidUpto : Rows.DecimalTellsUptoSaid :=
  OpenClaim.holds_of_cond 15 Tryd.f15 rfl rfl rfl rfl rfl rfl rfl ⟨rfl, rfl, rfl, rfl, rfl⟩ rfl rfl rfl rfl rfl (by kernel_rfl) Tryd.func15 (by kernel_rfl)
    (of_decide_eq_true (by kernel_rfl)) (by unfold Func.isWrapper; first | (rw [if_pos (by decide +kernel)]; kernel_rfl) | (rw [if_neg (by decide +kernel)]; exact ⟨rfl, rfl⟩))
    (fun os started H enc _ F => by rw [OpenClaim.pre_eq_preRow]; exact lifted os started H enc F)

theorem plain (f : FuncId) (fn : Func) (hf : Tryd.pinned.checked.prog.funcNamed "humpyard/humpyardlaw01.DecimalTells" = some f) (hfn : Tryd.pinned.checked.prog.funcs[f]? = some fn) :
    true = Tryd.pinned.checked.prog.looks [] ∧ ∀ (j : Nat) t, fn.params[j]? = some t → Tryd.pinned.checked.prog.wantsStandIn t = false := by
  obtain rfl : f = 15 := Option.some.inj ((show Tryd.prog.funcNamed "humpyard/humpyardlaw01.DecimalTells" = some 15 by kernel_rfl).symm.trans hf) |>.symm
  obtain rfl : fn = Tryd.f15 := (Option.some.inj (Tryd.func15.symm.trans hfn)).symm
  refine ⟨by kernel_rfl, fun j t ht => ?_⟩
  have hall : Tryd.f15.params.toList.all (fun t => !Tryd.prog.wantsStandIn t) = true := by kernel_rfl
  have hm : t ∈ Tryd.f15.params.toList := Array.mem_toList_iff.2 (Array.mem_of_getElem? ht)
  have := List.all_eq_true.1 hall t hm
  exact (show Tryd.prog.wantsStandIn t = false by simpa using this)
end Go.Proofs.YtifgegmnngfckaaDoor.decimalTells
namespace Go.Proofs.YtifgegmnngfckaaDoor
open Go.RowKit
theorem decimalTells_card_upto : Rows.DecimalTellsUptoCardSaid :=
  Claim7.holds_tied_plain_at .later [] _ _ _ _ decimalTells.saidUpto (fun _ h => by cases h) (by kernel_rfl) (fun _ h => by cases h) decimalTellsUpto_row_tie rfl ⟨rfl, rfl⟩ (by kernel_rfl) rfl decimalTells.plain (by kernel_rfl)
end Go.Proofs.YtifgegmnngfckaaDoor

